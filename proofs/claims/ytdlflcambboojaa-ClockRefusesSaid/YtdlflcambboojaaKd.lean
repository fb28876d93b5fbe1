/-
  Contracts of functions, proved by going through their code. No conditions.
-/
import Derived.Lib.SlicesCompact
import Derived.Sort.Grow
import Derived.Shelf.Sort.Plain
import Derived.Shelf.Slices.Reverse
import Derived.Shelf.Slices.CompactI
import Derived.Shelf.Slices.In.SortNone
import Derived.Test.YtdlflcambboojaaProg
import Derived.Test.YtdlflcambboojaaKa
import Derived.Test.YtdlflcambboojaaKb
import Derived.Test.YtdlflcambboojaaKc
set_option maxHeartbeats 8000000
set_option linter.unusedSimpArgs false
set_option linter.unusedVariables false
set_option maxRecDepth 10000
namespace Go.Proofs.Ks
open Go Go.Pg Go.Proofs

attribute [push_cast] rowAt_mask
/-- Each row of a matrix lies in an object of its own, behind the first one. -/
def Rows (H : Nat → Option AO) (n : Nat) (o : Mx) : Prop := ∀ x, x < n → Pg.rowAt H (1 + x) = some { k := 1, es := (o.getD x []).map eInt, ty := 3 }
theorem Rows.upd {H : Nat → Option AO} {n : Nat} {o : Mx} {id : Nat} {a : AO} (h : Rows H n o) (hid : id = 0 ∨ n < id) : Rows (updH H id a) n o := fun x hx => by
  have := h x hx
  unfold Pg.rowAt updH
  rw [if_neg (by omega)]; exact this
theorem Rows.set {H : Nat → Option AO} {n i k : Nat} {o : Mx} {v : Int} (h : Rows H n o) (hi : i < o.length) : Rows (updH H (1 + i) (.row { k := 1, es := ((o.getD i []).map eInt).set k [ai v], ty := 3 })) n (mset o i k v) := fun x hx => by
  by_cases e : x = i
  · subst e
    have e1 : (mset o x k v).getD x [] = (o.getD x []).set k v := by
      unfold mset; rw [List.getD_eq_getElem?_getD, List.getElem?_set]; simp [hi]
    rw [e1, List.map_set]
    unfold Pg.rowAt updH; simp
  · have e1 : (mset o i k v).getD x [] = o.getD x [] := by
      unfold mset; rw [List.getD_eq_getElem?_getD, List.getElem?_set, if_neg (fun h => e h.symm), ← List.getD_eq_getElem?_getD]
    rw [e1]
    have := h x hx
    unfold Pg.rowAt updH
    rw [if_neg (by omega)]; exact this
theorem Rows.succ {H : Nat → Option AO} {k : Nat} {o : Mx} (h : Rows H k o) (hk : Pg.rowAt H (1 + k) = some { k := 1, es := (o.getD k []).map eInt, ty := 3 }) : Rows H (k + 1) o := fun x hx => by
  by_cases e : x = k
  · subst e; exact hk
  · exact h x (by omega)
def outP (n k : Nat) : List (List AV) := (List.range k).map (fun i => [AV.ref (1 + i) 0 n]) ++ List.replicate (n - k) [AV.v (.slice none 0 0)]
theorem outP_len {n k : Nat} (h : k ≤ n) : (outP n k).length = n := by simp [outP]; omega
theorem outP_zero (n : Nat) : outP n 0 = List.replicate n [AV.v (.slice none 0 0)] := by simp [outP]
theorem outP_succ {n k : Nat} (h : k < n) : outP n (k + 1) = (outP n k).set k [AV.ref (1 + k) 0 n] := by
  unfold outP
  have e : List.replicate (n - k) [AV.v (.slice none 0 0)] = [AV.v (.slice none 0 0)] :: List.replicate (n - (k + 1)) [AV.v (.slice none 0 0)] := by
    rw [show n - k = (n - (k + 1)) + 1 by omega, List.replicate_succ]
  rw [e, List.set_append_right _ _ (by simp), List.range_succ, List.map_append]
  simp
theorem outP_next {n k : Nat} (h : k < n) : List.drop 1 ((outP n k).getD k []) = [] := by
  unfold outP
  have e : List.replicate (n - k) [AV.v (.slice none 0 0)] = [AV.v (.slice none 0 0)] :: List.replicate (n - (k + 1)) [AV.v (.slice none 0 0)] := by
    rw [show n - k = (n - (k + 1)) + 1 by omega, List.replicate_succ]
  rw [e, List.getD_eq_getElem?_getD, List.getElem?_append_right (by simp)]
  simp
theorem outP_get {n k i : Nat} (hi : i < k) : (outP n k).getD i [] = [AV.ref (1 + i) 0 n] ∧ (outP n k)[i]? = some [AV.ref (1 + i) 0 n] := by
  have e : (outP n k)[i]? = some [AV.ref (1 + i) 0 n] := by
    unfold outP
    rw [List.getElem?_append_left (by simpa using hi), List.getElem?_map, List.getElem?_range hi]; rfl
  exact ⟨by rw [List.getD_eq_getElem?_getD, e]; rfl, e⟩
def rowI (n k j : Nat) : List Int := (List.range j).map (fun c => if k ≠ c then far else 0) ++ List.replicate (n - j) 0
theorem rowI_len {n k j : Nat} (h : j ≤ n) : (rowI n k j).length = n := by simp [rowI]; omega
theorem rowI_zero (n k : Nat) : rowI n k 0 = List.replicate n 0 := by simp [rowI]
theorem rowI_all {n k : Nat} (h : k < n) : rowI n k n = (fwInit n).getD k [] := by
  unfold rowI fwInit
  rw [List.getD_eq_getElem?_getD, List.getElem?_map, List.getElem?_range h, Nat.sub_self]
  simp
theorem rowI_succ {n k j : Nat} (h : j < n) : rowI n k (j + 1) = (rowI n k j).set j (if k ≠ j then far else 0) := by
  unfold rowI
  have e : List.replicate (n - j) (0 : Int) = 0 :: List.replicate (n - (j + 1)) 0 := by
    rw [show n - j = (n - (j + 1)) + 1 by omega, List.replicate_succ]
  rw [e, set_mid (by simp), List.range_succ, List.map_append]
  simp
theorem rowI_same {n j : Nat} (h : j < n) : rowI n j (j + 1) = rowI n j j := by
  unfold rowI
  have e : List.replicate (n - j) (0 : Int) = 0 :: List.replicate (n - (j + 1)) 0 := by
    rw [show n - j = (n - (j + 1)) + 1 by omega, List.replicate_succ]
  rw [e, List.range_succ, List.map_append]
  simp
theorem pure_encM (o : Mx) : (o.map fun row => [lInt row]).all pureL = true := pure_map (fun _ => rfl) o
theorem take_encM (o : Mx) (n : Nat) (h : o.length = n) : (o.map fun row => [lInt row]).take n = o.map fun row => [lInt row] := by rw [List.take_of_length_le (by simp [h])]
theorem told_rows {H : Nat → Option AO} {n : Nat} {o : Mx} (hr : Rows H n o) (hd : Dim o n) : ∀ (i : Nat) (e e' : List AV), (outP n n)[i]? = some e → (o.map fun row => [lInt row])[i]? = some e' →
    e'.length = e.length ∧ ∀ (j : Nat) (a b : AV), e[j]? = some a → e'[j]? = some b → Pg.Told H a b ∧ ∀ x ∈ idsA a, x ∈ (List.range n).map (1 + ·) := fun i e e' h1 h2 => by
  have hi : i < n := by
    obtain ⟨h, _⟩ := List.getElem?_eq_some_iff.1 h2
    rw [List.length_map, hd.1] at h; exact h
  rw [(outP_get hi).2] at h1
  injection h1 with h1
  have e2 : (o.map fun row => [lInt row])[i]? = some [lInt (o.getD i [])] := get_map (fun row => [lInt row]) o i [] (by rw [hd.1]; exact hi)
  rw [e2] at h2
  injection h2 with h2
  subst h1; subst h2
  refine ⟨rfl, fun j a b ha hb => ?_⟩
  cases j with
  | succ j => simp at ha
  | zero =>
    simp only [List.getElem?_cons_zero, Option.some.injEq] at ha hb
    subst ha; subst hb
    refine ⟨.view ?_, fun x hx => ?_⟩
    · have hl := hd.2 i hi
      unfold viewA
      rw [hr i hi]
      dsimp only
      generalize o.getD i [] = row at hl ⊢
      rw [if_pos ⟨Nat.zero_le _, by rw [List.length_map, hl]; omega, pure_ints _⟩, List.drop_zero, List.take_of_length_le (by rw [List.length_map, hl]; exact Nat.le_refl _)]
    · simp only [idsA, List.mem_singleton] at hx
      subst hx
      exact List.mem_map.2 ⟨i, List.mem_range.2 hi, rfl⟩
theorem rowAt_frzM (H : Nat → Option AO) (ids : List Nat) (id : Nat) (a : AO) (r : Row) (h : a = .row r) : Pg.rowAt (updH (frz H ids) id a) id = some r := by
  subst h; unfold Pg.rowAt updH; simp
theorem closure_ok (n0 : Nat) (L : List Lk) (hn : n0 ≤ 100) (hll : L.length ≤ 10000) (hL : ∀ l ∈ L, l.a < n0 ∧ l.b < n0) (hm : ∀ l ∈ L, -1073741823 ≤ l.m ∧ l.m ≤ 1073741823) (hse : ∀ l ∈ L, l.a ≠ l.b) :
    OKv cx 104 [ai n0, lLink L] (match closureF n0 L with | some o => .tup [encM o, ab true] | none => .tup [.lst [], ab false]) := by
  obtain ⟨RES, hRES⟩ : ∃ z, closureF n0 L = z := ⟨_, rfl⟩
  rw [hRES]
  unfold closureF at hRES
  have k1 : ((n0 : Int) * 24 ≤ 281474976710656) = True := eq_true (by omega)
  have k2 : ((n0 : Int) * 8 ≤ 281474976710656) = True := eq_true (by omega)
  have k3 : ((n0 : Int) ≤ 281474976710656) = True := eq_true (by omega)
  refine OKat.of_body (rs := [4, 5]) Try.func104 rfl (by decide +kernel) rfl (by simp [Try.ntmps104]) ?_
  simp only [Try.ntmps104]
  repeat' first
    | apply AW.seq | apply AW.region | apply AW.ret | apply AW.block | apply AW.skip | apply AW.exit | apply AW.scope | apply AW.label | apply AWL.nil | apply D.nil
    | refine W.draw cx_mixed (by decide +kernel) ?_
    | ((first | (apply W.step cx_ok; decide) | (apply D.step cx_ok; decide; decide) | apply W.store cx_ok | (apply W.gS; rfl; decide) | (apply D.gS; rfl; decide; decide) | apply AW.cond); (simp (disch := omega) only [push_cast, simprocAttr, k1, k2, k3, zT, zS, zU, List.map_replicate] <;> rfl); all_goals try ((with_reducible intro hI); try first | (cases hI; done) | (simp only [INTS, zL] at hI; try first | (exfalso; omega) | (have hT : True := hI; clear hT hI))))
    | ((first | apply W.ret2 | apply W.end2); (iterate 2 (try (simp (disch := omega) only [push_cast, simprocAttr, k1, k2, k3, zT, zS, zU, List.map_replicate] <;> rfl))))
  refine AW.loop (fun n s => ∃ (k : Nat), n = n0 - k ∧ (k ≤ n0) ∧ (Rows s.H k (fwInit n0)) ∧ s.tm 0 = ai n0 ∧ s.tm 1 = lLink L ∧ s.tm 6 = .ref 0 0 n0 ∧ s.tm 7 = ai k ∧ Pg.rowAt s.H (0) = some ({ k := 1, es := outP n0 k, ty := 41 }) ∧ s.nx = 1 + k) (n0) ⟨0, rfl, (Nat.zero_le _), (fun x hx => absurd hx (Nat.not_lt_zero _)), ?_, ?_, ?_, ?_, ?_, ?_⟩ ?_
  iterate 6 (first | (simp (disch := omega) only [push_cast, simprocAttr, k1, k2, k3, zT, zS, zU, List.map_replicate, outP_zero] <;> first | rfl | omega) | omega)
  rintro n s ⟨k, hn, hp0, hp1, hS⟩
  by_cases hlt : k < n0
  · have hk : (k : Int) < (n0 : Int) := by omega
    have hol := outP_len hp0
    have hos := outP_succ hlt
    have hdz := outP_next hlt
    have z0 : ((0 : Nat) = 1 + k) = False := eq_false (by omega)
    have z1 : (1 + k = 0) = False := eq_false (by omega)
    repeat' first
      | apply AW.seq | apply AW.region | apply AW.ret | apply AW.block | apply AW.skip | apply AW.exit | apply AW.scope | apply AW.label | apply AWL.nil | apply D.nil
      | refine W.draw cx_mixed (by decide +kernel) ?_
      | ((first | (apply W.step cx_ok; decide) | (apply D.step cx_ok; decide; decide) | apply W.store cx_ok | (apply W.gS; rfl; decide) | (apply D.gS; rfl; decide; decide) | apply AW.cond); (simp (disch := omega) only [push_cast, simprocAttr, hS, k1, k2, k3, zT, zS, zU, List.map_replicate, hk, hlt, hol, z0, z1] <;> rfl); all_goals try ((with_reducible intro hI); try first | (cases hI; done) | (simp only [INTS, zL] at hI; try first | (exfalso; omega) | (have hT : True := hI; clear hT hI))))
      | ((first | apply W.ret2 | apply W.end2); (iterate 2 (try (simp (disch := omega) only [push_cast, simprocAttr, hS, k1, k2, k3, zT, zS, zU, List.map_replicate, hk, hlt, hol, z0, z1] <;> rfl))))
    refine AW.loop (fun n s => ∃ (j : Nat), n = n0 - j ∧ (j ≤ n0) ∧ (Rows s.H k (fwInit n0)) ∧ s.tm 0 = ai n0 ∧ s.tm 1 = lLink L ∧ s.tm 6 = .ref 0 0 n0 ∧ s.tm 7 = ai k ∧ s.tm 8 = ai j ∧ Pg.rowAt s.H (0) = some ({ k := 1, es := outP n0 (k + 1), ty := 41 }) ∧ Pg.rowAt s.H (1 + k) = some ({ k := 1, es := (rowI n0 k j).map eInt, ty := 3 }) ∧ s.nx = 1 + (k + 1)) (n0) ⟨0, rfl, (Nat.zero_le _), (by (try simp (disch := omega) only [push_cast, simprocAttr, hS, z0, z1]); (repeat (refine Rows.upd ?_ (by omega))); exact hp1), ?_, ?_, ?_, ?_, ?_, ?_, ?_, ?_⟩ ?_
    iterate 8 (first | (simp (disch := omega) only [push_cast, simprocAttr, hS, k1, k2, k3, zT, zS, zU, List.map_replicate, hk, hlt, hol, hos, hdz, z0, z1, rowI_zero] <;> first | rfl | omega) | omega)
    rintro n1 s1 ⟨j1, hn1, hp01, hp11, hS1⟩
    by_cases hlt1 : j1 < n0
    · have hk1 : (j1 : Int) < (n0 : Int) := by omega
      have hrl := rowI_len (k := k) hp01
      have hol1 := outP_len (n := n0) (k := k + 1) (by omega)
      have hog := outP_get (n := n0) (k := k + 1) (i := k) (by omega)
      have og1 := hog.1
      have og2 := hog.2
      have hrs := rowI_succ (k := k) hlt1
      by_cases he : k = j1
      · have heT : ((k : Int) = (j1 : Int)) = True := eq_true (by omega)
        have hrw : rowI n0 k (j1 + 1) = rowI n0 k j1 := by rw [← he]; exact rowI_same hlt
        repeat' first
          | apply AW.seq | apply AW.region | apply AW.ret | apply AW.block | apply AW.skip | apply AW.exit | apply AW.scope | apply AW.label | apply AWL.nil | apply D.nil
          | refine W.draw cx_mixed (by decide +kernel) ?_
          | ((first | (apply W.step cx_ok; decide) | (apply D.step cx_ok; decide; decide) | apply W.store cx_ok | (apply W.gS; rfl; decide) | (apply D.gS; rfl; decide; decide) | apply AW.cond); (simp (disch := omega) only [push_cast, simprocAttr, hS1, hk1, heT, z0, z1] <;> rfl); all_goals try ((with_reducible intro hI); try first | (cases hI; done) | (simp only [INTS, zL] at hI; try first | (exfalso; omega) | (have hT : True := hI; clear hT hI))))
          | ((first | apply W.ret2 | apply W.end2); (iterate 2 (try (simp (disch := omega) only [push_cast, simprocAttr, hS1, hk1, heT, z0, z1] <;> rfl))))
        all_goals (refine ⟨n0 - (j1 + 1), ?_, j1 + 1, rfl, (by omega), (by (try simp (disch := omega) only [push_cast, simprocAttr, hS1, z0, z1]); (repeat (refine Rows.upd ?_ (by omega))); exact hp11), ?_, ?_, ?_, ?_, ?_, ?_, ?_, ?_⟩; (omega); all_goals first | (simp (disch := omega) only [push_cast, simprocAttr, hS1, hk1, hrw, z0, z1] <;> first | rfl | omega) | omega)
      · have heF : ((k : Int) = (j1 : Int)) = False := eq_false (by omega)
        rw [if_pos he] at hrs
        repeat' first
          | apply AW.seq | apply AW.region | apply AW.ret | apply AW.block | apply AW.skip | apply AW.exit | apply AW.scope | apply AW.label | apply AWL.nil | apply D.nil
          | refine W.draw cx_mixed (by decide +kernel) ?_
          | ((first | (apply W.step cx_ok; decide) | (apply D.step cx_ok; decide; decide) | apply W.store cx_ok | (apply W.gS; rfl; decide) | (apply D.gS; rfl; decide; decide) | apply AW.cond); (simp (disch := omega) only [push_cast, simprocAttr, hS1, hk1, heF, hk, hlt, hlt1, hrl, hol1, og1, og2, z0, z1] <;> rfl); all_goals try ((with_reducible intro hI); try first | (cases hI; done) | (simp only [INTS, zL] at hI; try first | (exfalso; omega) | (have hT : True := hI; clear hT hI))))
          | ((first | apply W.ret2 | apply W.end2); (iterate 2 (try (simp (disch := omega) only [push_cast, simprocAttr, hS1, hk1, heF, hk, hlt, hlt1, hrl, hol1, og1, og2, z0, z1] <;> rfl))))
        all_goals (refine ⟨n0 - (j1 + 1), ?_, j1 + 1, rfl, (by omega), (by (try simp (disch := omega) only [push_cast, simprocAttr, hS1, z0, z1]); (repeat (refine Rows.upd ?_ (by omega))); exact hp11), ?_, ?_, ?_, ?_, ?_, ?_, ?_, ?_⟩; (omega); all_goals first | (simp (disch := omega) only [push_cast, simprocAttr, hS1, hk1, hrs, far, z0, z1] <;> first | rfl | omega) | omega)
    · have hk1 : ¬ (j1 : Int) < (n0 : Int) := by omega
      have hje : j1 = n0 := by omega
      subst hje
      have hrow : Pg.rowAt s1.H (1 + k) = some { k := 1, es := ((fwInit j1).getD k []).map eInt, ty := 3 } := by rw [← rowI_all hlt]; simp only [hS1]
      repeat' first
        | apply AW.seq | apply AW.region | apply AW.ret | apply AW.block | apply AW.skip | apply AW.exit | apply AW.scope | apply AW.label | apply AWL.nil | apply D.nil
        | refine W.draw cx_mixed (by decide +kernel) ?_
        | ((first | (apply W.step cx_ok; decide) | (apply D.step cx_ok; decide; decide) | apply W.store cx_ok | (apply W.gS; rfl; decide) | (apply D.gS; rfl; decide; decide) | apply AW.cond); (simp (disch := omega) only [push_cast, simprocAttr, hS1, hk1, z0, z1] <;> rfl); all_goals try ((with_reducible intro hI); try first | (cases hI; done) | (simp only [INTS, zL] at hI; try first | (exfalso; omega) | (have hT : True := hI; clear hT hI))))
        | ((first | apply W.ret2 | apply W.end2); (iterate 2 (try (simp (disch := omega) only [push_cast, simprocAttr, hS1, hk1, z0, z1] <;> rfl))))
      all_goals (refine ⟨j1 - (k + 1), ?_, k + 1, rfl, (by omega), (Rows.succ (by (try simp (disch := omega) only [push_cast, simprocAttr, hS1, z0, z1]); (repeat (refine Rows.upd ?_ (by omega))); exact hp11) (by (try simp (disch := omega) only [push_cast, simprocAttr, hS1]); first | exact hrow | rw [rowI_all hlt])), ?_, ?_, ?_, ?_, ?_, ?_⟩; (omega); all_goals first | (simp (disch := omega) only [push_cast, simprocAttr, hS1, hk1, z0, z1] <;> first | rfl | omega) | omega)
  · have hk : ¬ (k : Int) < (n0 : Int) := by omega
    have hke : n0 = k := by omega
    subst hke
    have og := fun i (h : i < n0) => outP_get (n := n0) (k := n0) h
    have hol := outP_len (n := n0) (k := n0) (Nat.le_refl _)
    repeat' first
      | apply AW.seq | apply AW.region | apply AW.ret | apply AW.block | apply AW.skip | apply AW.exit | apply AW.scope | apply AW.label | apply AWL.nil | apply D.nil
      | refine W.draw cx_mixed (by decide +kernel) ?_
      | ((first | (apply W.step cx_ok; decide) | (apply D.step cx_ok; decide; decide) | apply W.store cx_ok | (apply W.gS; rfl; decide) | (apply D.gS; rfl; decide; decide) | apply AW.cond); (simp (disch := omega) only [push_cast, simprocAttr, hS, hk] <;> rfl); all_goals try ((with_reducible intro hI); try first | (cases hI; done) | (simp only [INTS, zL] at hI; try first | (exfalso; omega) | (have hT : True := hI; clear hT hI))))
      | ((first | apply W.ret2 | apply W.end2); (iterate 2 (try (simp (disch := omega) only [push_cast, simprocAttr, hS, hk] <;> rfl))))
    refine AW.loop (fun n s => ∃ (k : Nat) (o : Mx) (rest : List Lk), n = rest.length ∧ (L.drop k = rest) ∧ (fwLinks rest o = fwLinks L (fwInit n0)) ∧ (FL L n0 o) ∧ (Rows s.H n0 o) ∧ 1 ≤ s.nx ∧ s.tm 0 = ai n0 ∧ s.tm 1 = lLink L ∧ s.tm 6 = .ref 0 0 n0 ∧ s.tm 9 = ai k ∧ Pg.rowAt s.H (0) = some ({ k := 1, es := outP n0 n0, ty := 41 })) (L.length) ⟨0, (fwInit n0), L, rfl, rfl, rfl, FL.init, (by (try simp (disch := omega) only [push_cast, simprocAttr, hS]); (repeat (refine Rows.upd ?_ (by omega))); exact hp1), ?_, ?_, ?_, ?_, ?_, ?_⟩ ?_
    iterate 6 (first | (simp (disch := omega) only [push_cast, simprocAttr, hS, hk] <;> first | rfl | omega) | omega)
    rintro n1 s1 ⟨k1, o1, rest1, hn1, hp01, hp11, hp21, hp31, hnl1, hS1⟩
    have hZ1 : (0 : Nat) ≠ s1.nx ∧ s1.nx ≠ (0 : Nat) := by omega
    have ho1 := hp21.dim
    rcases rest1 with _ | ⟨l, rest1⟩
    · have hk1 := drop_nil hp01
      rw [fwLinks] at hp11
      have hO : o1 = fwLinks L (fwInit n0) := hp11
      have hfs := FS.start (n := n0) hL hse
      rw [← hO] at hfs hRES
      repeat' first
        | apply AW.seq | apply AW.region | apply AW.ret | apply AW.block | apply AW.skip | apply AW.exit | apply AW.scope | apply AW.label | apply AWL.nil | apply D.nil
        | refine W.draw cx_mixed (by decide +kernel) ?_
        | ((first | (apply W.step cx_ok; decide) | (apply D.step cx_ok; decide; decide) | apply W.store cx_ok | (apply W.gS; rfl; decide) | (apply D.gS; rfl; decide; decide) | apply AW.cond); (simp (disch := omega) only [push_cast, simprocAttr, hS1, hZ1, hk1] <;> rfl); all_goals try ((with_reducible intro hI); try first | (cases hI; done) | (simp only [INTS, zL] at hI; try first | (exfalso; omega) | (have hT : True := hI; clear hT hI))))
        | ((first | apply W.ret2 | apply W.end2); (iterate 2 (try (simp (disch := omega) only [push_cast, simprocAttr, hS1, hZ1, hk1] <;> rfl))))
      refine AW.loop (fun n s => ∃ (m : Nat) (o : Mx), n = n0 - m ∧ (m ≤ n0) ∧ (fwLoop n0 (n0 - m) m o = RES) ∧ (FS L n0 o m) ∧ (Rows s.H n0 o) ∧ 1 ≤ s.nx ∧ s.tm 0 = ai n0 ∧ s.tm 1 = lLink L ∧ s.tm 6 = .ref 0 0 n0 ∧ s.tm 10 = ai m ∧ Pg.rowAt s.H (0) = some ({ k := 1, es := outP n0 n0, ty := 41 })) (n0) ⟨0, o1, rfl, (Nat.zero_le _), hRES, hfs, (by (try simp (disch := omega) only [push_cast, simprocAttr, hS1, hZ1]); (repeat (refine Rows.upd ?_ (by omega))); exact hp31), ?_, ?_, ?_, ?_, ?_, ?_⟩ ?_
      iterate 6 (first | (simp (disch := omega) only [push_cast, simprocAttr, hS1, hZ1, hk1] <;> first | rfl | omega) | omega)
      rintro n2 s2 ⟨m2, o2, hn2, hp02, hp12, hp22, hp32, hnl2, hS2⟩
      have hZ2 : (0 : Nat) ≠ s2.nx ∧ s2.nx ≠ (0 : Nat) := by omega
      have hdm : Dim o2 n0 := ⟨hp22.fw.len, hp22.fw.row⟩
      by_cases hlt2 : m2 < n0
      · have hk2 : (m2 : Int) < (n0 : Int) := by omega
        obtain ⟨c2, hc2⟩ : ∃ c, n0 - m2 = c + 1 := ⟨n0 - m2 - 1, by omega⟩
        rw [hc2, fwLoop] at hp12
        obtain ⟨R1, hR1⟩ : ∃ z, fwStep m2 n0 n0 0 o2 = z := ⟨_, rfl⟩
        rw [hR1] at hp12
        have hlow := fun x y (hx : x < n0) (hy : y < n0) => hp22.low (B := 1073741823) hL (by decide) (fun l hl => by have := hm l hl; omega) hx hy
        have hle := fun x y (hx : x < n0) (hy : y < n0) => hp22.fw.le x y hx hy
        have hmm := hp22.diag m2 hlt2
        repeat' first
          | apply AW.seq | apply AW.region | apply AW.ret | apply AW.block | apply AW.skip | apply AW.exit | apply AW.scope | apply AW.label | apply AWL.nil | apply D.nil
          | refine W.draw cx_mixed (by decide +kernel) ?_
          | ((first | (apply W.step cx_ok; decide) | (apply D.step cx_ok; decide; decide) | apply W.store cx_ok | (apply W.gS; rfl; decide) | (apply D.gS; rfl; decide; decide) | apply AW.cond); (simp (disch := omega) only [push_cast, simprocAttr, hS2, hZ2, hk2] <;> rfl); all_goals try ((with_reducible intro hI); try first | (cases hI; done) | (simp only [INTS, zL] at hI; try first | (exfalso; omega) | (have hT : True := hI; clear hT hI))))
          | ((first | apply W.ret2 | apply W.end2); (iterate 2 (try (simp (disch := omega) only [push_cast, simprocAttr, hS2, hZ2, hk2] <;> rfl))))
        refine AW.loop (fun n s => ∃ (i : Nat) (o : Mx), n = n0 - i ∧ (i ≤ n0) ∧ (fwStep m2 n0 (n0 - i) i o = R1) ∧ (Mid n0 m2 o2 o) ∧ (Rows s.H n0 o) ∧ 1 ≤ s.nx ∧ s.tm 0 = ai n0 ∧ s.tm 1 = lLink L ∧ s.tm 6 = .ref 0 0 n0 ∧ s.tm 10 = ai m2 ∧ s.tm 11 = ai i ∧ Pg.rowAt s.H (0) = some ({ k := 1, es := outP n0 n0, ty := 41 })) (n0) ⟨0, o2, rfl, (Nat.zero_le _), hR1, (Mid.refl hdm), (by (try simp (disch := omega) only [push_cast, simprocAttr, hS2, hZ2]); (repeat (refine Rows.upd ?_ (by omega))); exact hp32), ?_, ?_, ?_, ?_, ?_, ?_, ?_⟩ ?_
        iterate 7 (first | (simp (disch := omega) only [push_cast, simprocAttr, hS2, hZ2, hk2] <;> first | rfl | omega) | omega)
        rintro n3 s3 ⟨i3, o3, hn3, hp03, hp13, hp23, hp33, hnl3, hS3⟩
        have hZ3 : (0 : Nat) ≠ s3.nx ∧ s3.nx ≠ (0 : Nat) := by omega
        by_cases hlt3 : i3 < n0
        · have hk3 : (i3 : Int) < (n0 : Int) := by omega
          obtain ⟨c3, hc3⟩ : ∃ c, n0 - i3 = c + 1 := ⟨n0 - i3 - 1, by omega⟩
          rw [hc3, fwStep] at hp13
          obtain ⟨R2, hR2⟩ : ∃ z, fwRow m2 i3 n0 0 o3 = z := ⟨_, rfl⟩
          rw [hR2] at hp13
          repeat' first
            | apply AW.seq | apply AW.region | apply AW.ret | apply AW.block | apply AW.skip | apply AW.exit | apply AW.scope | apply AW.label | apply AWL.nil | apply D.nil
            | refine W.draw cx_mixed (by decide +kernel) ?_
            | ((first | (apply W.step cx_ok; decide) | (apply D.step cx_ok; decide; decide) | apply W.store cx_ok | (apply W.gS; rfl; decide) | (apply D.gS; rfl; decide; decide) | apply AW.cond); (simp (disch := omega) only [push_cast, simprocAttr, hS3, hZ3, hk3] <;> rfl); all_goals try ((with_reducible intro hI); try first | (cases hI; done) | (simp only [INTS, zL] at hI; try first | (exfalso; omega) | (have hT : True := hI; clear hT hI))))
            | ((first | apply W.ret2 | apply W.end2); (iterate 2 (try (simp (disch := omega) only [push_cast, simprocAttr, hS3, hZ3, hk3] <;> rfl))))
          refine AW.loop (fun n s => ∃ (j : Nat) (o : Mx), n = n0 - j ∧ (j ≤ n0) ∧ (fwRow m2 i3 (n0 - j) j o = R2) ∧ (Mid n0 m2 o2 o) ∧ (Rows s.H n0 o) ∧ 1 ≤ s.nx ∧ s.tm 0 = ai n0 ∧ s.tm 1 = lLink L ∧ s.tm 6 = .ref 0 0 n0 ∧ s.tm 10 = ai m2 ∧ s.tm 11 = ai i3 ∧ s.tm 12 = ai j ∧ Pg.rowAt s.H (0) = some ({ k := 1, es := outP n0 n0, ty := 41 })) (n0) ⟨0, o3, rfl, (Nat.zero_le _), hR2, hp23, (by (try simp (disch := omega) only [push_cast, simprocAttr, hS3, hZ3]); (repeat (refine Rows.upd ?_ (by omega))); exact hp33), ?_, ?_, ?_, ?_, ?_, ?_, ?_, ?_⟩ ?_
          iterate 8 (first | (simp (disch := omega) only [push_cast, simprocAttr, hS3, hZ3, hk3] <;> first | rfl | omega) | omega)
          rintro n4 s4 ⟨j4, o4, hn4, hp04, hp14, hp24, hp34, hnl4, hS4⟩
          have hZ4 : (0 : Nat) ≠ s4.nx ∧ s4.nx ≠ (0 : Nat) := by omega
          by_cases hlt4 : j4 < n0
          · have hk4 : (j4 : Int) < (n0 : Int) := by omega
            obtain ⟨c4, hc4⟩ : ∃ c, n0 - j4 = c + 1 := ⟨n0 - j4 - 1, by omega⟩
            rw [hc4, fwRow] at hp14
            obtain ⟨oi1, oi2⟩ := og i3 hlt3
            obtain ⟨om1, om2⟩ := og m2 hlt2
            have hRi := hp34 i3 hlt3
            have hRm := hp34 m2 hlt2
            have hdd := hp24.dim
            have hli := hdd.2 i3 hlt3
            have hlm := hdd.2 m2 hlt2
            have hil : i3 < o4.length := by rw [hdd.1]; exact hlt3
            have z0 : ((0 : Nat) = 1 + i3) = False := eq_false (by omega)
            have z1 : (1 + i3 = 0) = False := eq_false (by omega)
            have z2 : ((0 : Nat) = 1 + m2) = False := eq_false (by omega)
            have z3 : (1 + m2 = 0) = False := eq_false (by omega)
            have e1 : mget o4 i3 m2 = (o4.getD i3 []).getD m2 0 := rfl
            have e2 : mget o4 m2 j4 = (o4.getD m2 []).getD j4 0 := rfl
            have e3 : mget o4 i3 j4 = (o4.getD i3 []).getD j4 0 := rfl
            have q1 := hp24.col i3 hlt3
            have q2 := hp24.row j4 hlt4
            have w1 := hlow i3 m2 hlt3 hlt2
            have w2 := hlow m2 j4 hlt2 hlt4
            have w3 := hle i3 m2 hlt3 hlt2
            have w4 := hle m2 j4 hlt2 hlt4
            unfold far at w3 w4
            have hmid := hp24.cell hmm hlt2 hlt3 hlt4
            by_cases hc : mget o4 i3 m2 < far ∧ mget o4 m2 j4 < far
            · have hcell : fwCell m2 i3 j4 o4 = mset o4 i3 j4 (min (mget o4 i3 j4) (mget o4 i3 m2 + mget o4 m2 j4)) := if_pos hc
              obtain ⟨a1, a2⟩ := hc
              unfold far at a1 a2
              rw [e1] at q1 a1
              rw [e2] at q2 a2
              rw [e1, e2, e3] at hcell
              repeat' first
                | apply AW.seq | apply AW.region | apply AW.ret | apply AW.block | apply AW.skip | apply AW.exit | apply AW.scope | apply AW.label | apply AWL.nil | apply D.nil
                | refine AW.draw (id := 25) cx_mixed [29] [] [] 0 (by decide +kernel) ?_
                | refine W.draw cx_mixed (by decide +kernel) ?_
                | ((first | (apply W.step cx_ok; decide) | (apply D.step cx_ok; decide; decide) | apply W.store cx_ok | (apply W.gS; rfl; decide) | (apply D.gS; rfl; decide; decide) | apply AW.cond); (simp (disch := omega) only [push_cast, simprocAttr, hS4, hZ4, hk4, hk2, hk3, hlt2, hlt3, hlt4, oi1, oi2, om1, om2, hRi, hRm, hli, hlm, hol, a1, a2, z0, z1, z2, z3] <;> rfl); all_goals try ((with_reducible intro hI); try first | (cases hI; done) | (simp only [INTS, zL] at hI; try first | (exfalso; omega) | (have hT : True := hI; clear hT hI))))
                | ((first | (apply D.store cx_ok; decide) | (apply D.stept cx_ok; decide; decide) | (apply D.stepm cx_ok; decide; decide)); (simp (disch := omega) only [push_cast, simprocAttr, hS4, hZ4, hk4, hk2, hk3, hlt2, hlt3, hlt4, oi1, oi2, om1, om2, hRi, hRm, hli, hlm, hol, a1, a2, z0, z1, z2, z3] <;> rfl); try first | exact .inl rfl | exact .inr (by simp))
                | ((apply D.alloct cx_ok; decide; decide); (simp (disch := omega) only [push_cast, simprocAttr, hS4, hZ4, hk4, hk2, hk3, hlt2, hlt3, hlt4, oi1, oi2, om1, om2, hRi, hRm, hli, hlm, hol, a1, a2, z0, z1, z2, z3] <;> rfl); first | exact .inl rfl | exact .inr (by simp))
                | ((first | apply W.ret2 | apply W.end2); (iterate 2 (try (simp (disch := omega) only [push_cast, simprocAttr, hS4, hZ4, hk4, hk2, hk3, hlt2, hlt3, hlt4, oi1, oi2, om1, om2, hRi, hRm, hli, hlm, hol, a1, a2, z0, z1, z2, z3] <;> rfl))))
              all_goals (refine ⟨n0 - (j4 + 1), ?_, j4 + 1, (fwCell m2 i3 j4 o4), rfl, (by omega), (by rw [show n0 - (j4 + 1) = c4 by omega]; exact hp14), hmid, (by rw [hcell]; (try simp (disch := omega) only [push_cast, simprocAttr, hS4, hZ4, hRi, hRm, oi1, oi2, om1, om2]); (repeat (refine Rows.upd ?_ (by omega))); exact (Rows.set hp34 hil)), ?_, ?_, ?_, ?_, ?_, ?_, ?_, ?_⟩; (omega); all_goals first | (simp (disch := omega) only [push_cast, simprocAttr, hS4, hZ4, hk4, z0, z1, oi1, oi2] <;> first | rfl | omega) | omega)
            · have hcell : fwCell m2 i3 j4 o4 = o4 := if_neg hc
              rw [hcell] at hp14 hmid
              unfold far at hc
              rw [e1, e2] at hc
              repeat' first
                | apply AW.seq | apply AW.region | apply AW.ret | apply AW.block | apply AW.skip | apply AW.exit | apply AW.scope | apply AW.label | apply AWL.nil | apply D.nil
                | refine AW.draw (id := 25) cx_mixed [29] [] [] 0 (by decide +kernel) ?_
                | refine W.draw cx_mixed (by decide +kernel) ?_
                | ((first | (apply W.step cx_ok; decide) | (apply D.step cx_ok; decide; decide) | apply W.store cx_ok | (apply W.gS; rfl; decide) | (apply D.gS; rfl; decide; decide) | apply AW.cond); (simp (disch := omega) only [push_cast, simprocAttr, hS4, hZ4, hk4, hk2, hk3, hlt2, hlt3, hlt4, oi1, oi2, om1, om2, hRi, hRm, hli, hlm, hol, z0, z1, z2, z3] <;> rfl); all_goals try ((with_reducible intro hI); try first | (cases hI; done) | (simp only [INTS, zL] at hI; try first | (exfalso; omega) | (have hT : True := hI; clear hT hI))))
                | ((first | (apply D.store cx_ok; decide) | (apply D.stept cx_ok; decide; decide) | (apply D.stepm cx_ok; decide; decide)); (simp (disch := omega) only [push_cast, simprocAttr, hS4, hZ4, hk4, hk2, hk3, hlt2, hlt3, hlt4, oi1, oi2, om1, om2, hRi, hRm, hli, hlm, hol, z0, z1, z2, z3] <;> rfl); try first | exact .inl rfl | exact .inr (by simp))
                | ((apply D.alloct cx_ok; decide; decide); (simp (disch := omega) only [push_cast, simprocAttr, hS4, hZ4, hk4, hk2, hk3, hlt2, hlt3, hlt4, oi1, oi2, om1, om2, hRi, hRm, hli, hlm, hol, z0, z1, z2, z3] <;> rfl); first | exact .inl rfl | exact .inr (by simp))
                | ((first | apply W.ret2 | apply W.end2); (iterate 2 (try (simp (disch := omega) only [push_cast, simprocAttr, hS4, hZ4, hk4, hk2, hk3, hlt2, hlt3, hlt4, oi1, oi2, om1, om2, hRi, hRm, hli, hlm, hol, z0, z1, z2, z3] <;> rfl))))
              all_goals first
                | (exfalso; exact hc ⟨by assumption, by assumption⟩)
                | (refine ⟨n0 - (j4 + 1), ?_, j4 + 1, o4, rfl, (by omega), (by rw [show n0 - (j4 + 1) = c4 by omega]; exact hp14), hmid, (by (try simp (disch := omega) only [push_cast, simprocAttr, hS4, hZ4]); (repeat (refine Rows.upd ?_ (by omega))); exact hp34), ?_, ?_, ?_, ?_, ?_, ?_, ?_, ?_⟩; (omega); all_goals first | (simp (disch := omega) only [push_cast, simprocAttr, hS4, hZ4, hk4, z0, z1, oi1, oi2] <;> first | rfl | omega) | omega)
          · have hk4 : ¬ (j4 : Int) < (n0 : Int) := by omega
            rw [show n0 - j4 = 0 by omega, fwRow] at hp14
            subst hp14
            repeat' first
              | apply AW.seq | apply AW.region | apply AW.ret | apply AW.block | apply AW.skip | apply AW.exit | apply AW.scope | apply AW.label | apply AWL.nil | apply D.nil
              | refine W.draw cx_mixed (by decide +kernel) ?_
              | ((first | (apply W.step cx_ok; decide) | (apply D.step cx_ok; decide; decide) | apply W.store cx_ok | (apply W.gS; rfl; decide) | (apply D.gS; rfl; decide; decide) | apply AW.cond); (simp (disch := omega) only [push_cast, simprocAttr, hS4, hZ4, hk4] <;> rfl); all_goals try ((with_reducible intro hI); try first | (cases hI; done) | (simp only [INTS, zL] at hI; try first | (exfalso; omega) | (have hT : True := hI; clear hT hI))))
              | ((first | apply W.ret2 | apply W.end2); (iterate 2 (try (simp (disch := omega) only [push_cast, simprocAttr, hS4, hZ4, hk4] <;> rfl))))
            all_goals (refine ⟨n0 - (i3 + 1), ?_, i3 + 1, o4, rfl, (by omega), (by rw [show n0 - (i3 + 1) = c3 by omega]; exact hp13), hp24, (by (try simp (disch := omega) only [push_cast, simprocAttr, hS4, hZ4]); (repeat (refine Rows.upd ?_ (by omega))); exact hp34), ?_, ?_, ?_, ?_, ?_, ?_, ?_⟩; (omega); all_goals first | (simp (disch := omega) only [push_cast, simprocAttr, hS4, hZ4, hk4] <;> first | rfl | omega) | omega)
        · have hk3 : ¬ (i3 : Int) < (n0 : Int) := by omega
          rw [show n0 - i3 = 0 by omega, fwStep] at hp13
          subst hp13
          have hdm3 := hp23.dim
          obtain ⟨DG, hDG⟩ : ∃ z, negD o3 n0 0 = z := ⟨_, rfl⟩
          rw [hDG] at hp12
          repeat' first
            | apply AW.seq | apply AW.region | apply AW.ret | apply AW.block | apply AW.skip | apply AW.exit | apply AW.scope | apply AW.label | apply AWL.nil | apply D.nil
            | refine W.draw cx_mixed (by decide +kernel) ?_
            | ((first | (apply W.step cx_ok; decide) | (apply D.step cx_ok; decide; decide) | apply W.store cx_ok | (apply W.gS; rfl; decide) | (apply D.gS; rfl; decide; decide) | apply AW.cond); (simp (disch := omega) only [push_cast, simprocAttr, hS3, hZ3, hk3] <;> rfl); all_goals try ((with_reducible intro hI); try first | (cases hI; done) | (simp only [INTS, zL] at hI; try first | (exfalso; omega) | (have hT : True := hI; clear hT hI))))
            | ((first | apply W.ret2 | apply W.end2); (iterate 2 (try (simp (disch := omega) only [push_cast, simprocAttr, hS3, hZ3, hk3] <;> rfl))))
          refine AW.loop (fun n s => ∃ (i : Nat), n = n0 - i ∧ (i ≤ n0) ∧ (negD o3 (n0 - i) i = DG) ∧ (Rows s.H n0 o3) ∧ 1 ≤ s.nx ∧ s.tm 0 = ai n0 ∧ s.tm 1 = lLink L ∧ s.tm 6 = .ref 0 0 n0 ∧ s.tm 10 = ai m2 ∧ s.tm 13 = ai i ∧ Pg.rowAt s.H (0) = some ({ k := 1, es := outP n0 n0, ty := 41 })) (n0) ⟨0, rfl, (Nat.zero_le _), hDG, (by (try simp (disch := omega) only [push_cast, simprocAttr, hS3, hZ3]); (repeat (refine Rows.upd ?_ (by omega))); exact hp33), ?_, ?_, ?_, ?_, ?_, ?_, ?_⟩ ?_
          iterate 7 (first | (simp (disch := omega) only [push_cast, simprocAttr, hS3, hZ3, hk3] <;> first | rfl | omega) | omega)
          rintro n4 s4 ⟨i4, hn4, hp04, hp14, hp24, hnl4, hS4⟩
          have hZ4 : (0 : Nat) ≠ s4.nx ∧ s4.nx ≠ (0 : Nat) := by omega
          by_cases hlt4 : i4 < n0
          · have hk4 : (i4 : Int) < (n0 : Int) := by omega
            obtain ⟨c4, hc4⟩ : ∃ c, n0 - i4 = c + 1 := ⟨n0 - i4 - 1, by omega⟩
            rw [hc4, negD] at hp14
            obtain ⟨oi1, oi2⟩ := og i4 hlt4
            have hRi := hp24 i4 hlt4
            have hli := hdm3.2 i4 hlt4
            have e1 : mget o3 i4 i4 = (o3.getD i4 []).getD i4 0 := rfl
            rw [e1] at hp14
            by_cases hneg : (o3.getD i4 []).getD i4 0 < 0
            · have hD : DG = true := by rw [← hp14, decide_eq_true hneg, Bool.true_or]
              rw [hD, if_pos rfl] at hp12
              subst hp12
              repeat' first
                | apply AW.seq | apply AW.region | apply AW.ret | apply AW.block | apply AW.skip | apply AW.exit | apply AW.scope | apply AW.label | apply AWL.nil | apply D.nil
                | refine W.draw cx_mixed (by decide +kernel) ?_
                | ((first | (apply W.step cx_ok; decide) | (apply D.step cx_ok; decide; decide) | apply W.store cx_ok | (apply W.gS; rfl; decide) | (apply D.gS; rfl; decide; decide) | apply AW.cond); (simp (disch := omega) only [push_cast, simprocAttr, hS4, hZ4, hk4, hlt4, oi1, oi2, hRi, hli, hol, hneg] <;> rfl); all_goals try ((with_reducible intro hI); try first | (cases hI; done) | (simp only [INTS, zL] at hI; try first | (exfalso; omega) | (have hT : True := hI; clear hT hI))))
                | ((first | apply W.ret2 | apply W.end2); (iterate 2 (try (simp (disch := omega) only [push_cast, simprocAttr, hS4, hZ4, hk4, hlt4, oi1, oi2, hRi, hli, hol, hneg] <;> rfl))))
              all_goals (show _ = _; rfl)
            · have hnext : negD o3 (n0 - (i4 + 1)) (i4 + 1) = DG := by
                rw [show n0 - (i4 + 1) = c4 by omega, ← hp14, decide_eq_false hneg, Bool.false_or]
              repeat' first
                | apply AW.seq | apply AW.region | apply AW.ret | apply AW.block | apply AW.skip | apply AW.exit | apply AW.scope | apply AW.label | apply AWL.nil | apply D.nil
                | refine W.draw cx_mixed (by decide +kernel) ?_
                | ((first | (apply W.step cx_ok; decide) | (apply D.step cx_ok; decide; decide) | apply W.store cx_ok | (apply W.gS; rfl; decide) | (apply D.gS; rfl; decide; decide) | apply AW.cond); (simp (disch := omega) only [push_cast, simprocAttr, hS4, hZ4, hk4, hlt4, oi1, oi2, hRi, hli, hol, hneg] <;> rfl); all_goals try ((with_reducible intro hI); try first | (cases hI; done) | (simp only [INTS, zL] at hI; try first | (exfalso; omega) | (have hT : True := hI; clear hT hI))))
                | ((first | apply W.ret2 | apply W.end2); (iterate 2 (try (simp (disch := omega) only [push_cast, simprocAttr, hS4, hZ4, hk4, hlt4, oi1, oi2, hRi, hli, hol, hneg] <;> rfl))))
              all_goals (refine ⟨n0 - (i4 + 1), ?_, i4 + 1, rfl, (by omega), hnext, (by (try simp (disch := omega) only [push_cast, simprocAttr, hS4, hZ4]); (repeat (refine Rows.upd ?_ (by omega))); exact hp24), ?_, ?_, ?_, ?_, ?_, ?_, ?_⟩; (omega); all_goals first | (simp (disch := omega) only [push_cast, simprocAttr, hS4, hZ4, hk4] <;> first | rfl | omega) | omega)
          · have hk4 : ¬ (i4 : Int) < (n0 : Int) := by omega
            rw [show n0 - i4 = 0 by omega, negD] at hp14
            have hng : negD (fwStep m2 n0 n0 0 o2) n0 0 = false := by rw [hR1, hDG, ← hp14]
            have hfn := hp22.next (B := 1073741823) hL (by decide) (fun l hl => by have := hm l hl; omega) (by unfold far; omega) hlt2 hng
            rw [hR1] at hfn
            rw [← hp14, if_neg (by decide)] at hp12
            repeat' first
              | apply AW.seq | apply AW.region | apply AW.ret | apply AW.block | apply AW.skip | apply AW.exit | apply AW.scope | apply AW.label | apply AWL.nil | apply D.nil
              | refine W.draw cx_mixed (by decide +kernel) ?_
              | ((first | (apply W.step cx_ok; decide) | (apply D.step cx_ok; decide; decide) | apply W.store cx_ok | (apply W.gS; rfl; decide) | (apply D.gS; rfl; decide; decide) | apply AW.cond); (simp (disch := omega) only [push_cast, simprocAttr, hS4, hZ4, hk4] <;> rfl); all_goals try ((with_reducible intro hI); try first | (cases hI; done) | (simp only [INTS, zL] at hI; try first | (exfalso; omega) | (have hT : True := hI; clear hT hI))))
              | ((first | apply W.ret2 | apply W.end2); (iterate 2 (try (simp (disch := omega) only [push_cast, simprocAttr, hS4, hZ4, hk4] <;> rfl))))
            all_goals (refine ⟨n0 - (m2 + 1), ?_, m2 + 1, o3, rfl, (by omega), (by rw [show n0 - (m2 + 1) = c2 by omega]; exact hp12), hfn, (by (try simp (disch := omega) only [push_cast, simprocAttr, hS4, hZ4]); (repeat (refine Rows.upd ?_ (by omega))); exact hp24), ?_, ?_, ?_, ?_, ?_, ?_⟩; (omega); all_goals first | (simp (disch := omega) only [push_cast, simprocAttr, hS4, hZ4, hk4] <;> first | rfl | omega) | omega)
      · have hk2 : ¬ (m2 : Int) < (n0 : Int) := by omega
        rw [show n0 - m2 = 0 by omega, fwLoop] at hp12
        subst hp12
        have hr0 : Pg.rowAt s2.H 0 = some { k := 1, es := outP n0 n0, ty := 41 } := by simp only [hS2]
        refine AW.settle 0 ((List.range n0).map (1 + ·)) (es' := o2.map fun row => [lInt row]) hr0 (fun i hi => ?_) (fun hi => ?_) ?_ (told_rows hp32 hdm) ?_
        · obtain ⟨x, hx, rfl⟩ := List.mem_map.1 hi
          exact ⟨_, hp32 x (List.mem_range.1 hx)⟩
        · obtain ⟨x, hx, e⟩ := List.mem_map.1 hi
          omega
        · rw [List.length_map, hdm.1, hol]
        have hml := hdm.1
        repeat' first
          | apply AW.seq | apply AW.region | apply AW.ret | apply AW.block | apply AW.skip | apply AW.exit | apply AW.scope | apply AW.label | apply AWL.nil | apply D.nil
          | refine W.draw cx_mixed (by decide +kernel) ?_
          | ((first | (apply W.step cx_ok; decide) | (apply D.step cx_ok; decide; decide) | apply W.store cx_ok | (apply W.gS; rfl; decide) | (apply D.gS; rfl; decide; decide) | apply AW.cond); (simp (disch := omega) only [push_cast, simprocAttr, hS2, hZ2, hk2, pure_encM, hml, leT, take_encM, zS, zT, rowAt_frzM] <;> rfl); all_goals try ((with_reducible intro hI); try first | (cases hI; done) | (simp only [INTS, zL] at hI; try first | (exfalso; omega) | (have hT : True := hI; clear hT hI))))
          | ((first | apply W.ret2 | apply W.end2); (iterate 2 (try (simp (disch := omega) only [push_cast, simprocAttr, hS2, hZ2, hk2, pure_encM, hml, leT, take_encM, zS, zT, rowAt_frzM] <;> rfl))))
        all_goals (show _ = _; rfl)
    · obtain ⟨hk1, hg1, hd1, hl1, hm1, hx1⟩ := drop_cons hp01 eLink []
      obtain ⟨ha, hb⟩ := hL l hm1
      obtain ⟨m1, m2⟩ := hm l hm1
      have ha' : (l.a : Int) < (n0 : Int) := by omega
      have hb' : (l.b : Int) < (n0 : Int) := by omega
      obtain ⟨og1, og2⟩ := og l.a ha
      have hRa := hp31 l.a ha
      have hla := ho1.2 l.a ha
      have z0 : ((0 : Nat) = 1 + l.a) = False := eq_false (by omega)
      have z1 : (1 + l.a = 0) = False := eq_false (by omega)
      have hal : l.a < o1.length := by rw [ho1.1]; exact ha
      obtain ⟨hnx, hS'⟩ : True ∧ True := ⟨trivial, trivial⟩
      repeat' first
        | apply AW.seq | apply AW.region | apply AW.ret | apply AW.block | apply AW.skip | apply AW.exit | apply AW.scope | apply AW.label | apply AWL.nil | apply D.nil
        | refine AW.draw (id := 14) cx_mixed [35] [] [] 0 (by decide +kernel) ?_
        | refine W.draw cx_mixed (by decide +kernel) ?_
        | ((first | (apply W.step cx_ok; decide) | (apply D.step cx_ok; decide; decide) | apply W.store cx_ok | (apply W.gS; rfl; decide) | (apply D.gS; rfl; decide; decide) | apply AW.cond); (simp (disch := omega) only [push_cast, simprocAttr, hS1, hZ1, hk1, hg1, hx1, ha', hb', ha, hb, og1, og2, hRa, hla, hol, z0, z1] <;> rfl); all_goals try ((with_reducible intro hI); try first | (cases hI; done) | (simp only [INTS, zL] at hI; try first | (exfalso; omega) | (have hT : True := hI; clear hT hI))))
        | ((first | (apply D.store cx_ok; decide) | (apply D.stept cx_ok; decide; decide) | (apply D.stepm cx_ok; decide; decide)); (simp (disch := omega) only [push_cast, simprocAttr, hS1, hZ1, hk1, hg1, hx1, ha', hb', ha, hb, og1, og2, hRa, hla, hol, z0, z1] <;> rfl); try first | exact .inl rfl | exact .inr (by simp))
        | ((apply D.alloct cx_ok; decide; decide); (simp (disch := omega) only [push_cast, simprocAttr, hS1, hZ1, hk1, hg1, hx1, ha', hb', ha, hb, og1, og2, hRa, hla, hol, z0, z1] <;> rfl); first | exact .inl rfl | exact .inr (by simp))
        | ((first | apply W.ret2 | apply W.end2); (iterate 2 (try (simp (disch := omega) only [push_cast, simprocAttr, hS1, hZ1, hk1, hg1, hx1, ha', hb', ha, hb, og1, og2, hRa, hla, hol, z0, z1] <;> rfl))))
      all_goals (refine ⟨rest1.length, ?_, k1 + 1, (fwLink o1 l), rest1, rfl, hd1, hp11, (hp21.link hL hse hm1), (by (try simp (disch := omega) only [push_cast, simprocAttr, hS1, hZ1, hRa, og1, og2]); (repeat (refine Rows.upd ?_ (by omega))); exact (Rows.set hp31 hal)), ?_, ?_, ?_, ?_, ?_, ?_⟩; ((simp only [List.length_cons] at *; omega)); all_goals first | (simp (disch := omega) only [push_cast, simprocAttr, hS1, hZ1, hk1, hg1, hx1, og1, og2, hRa, z0, z1] <;> first | rfl | omega) | omega)

end Go.Proofs.Ks

/-
  The links of a valid record: their ends, their lengths, how many they are. No conditions.
-/
namespace Go.Proofs.Ks

structure LkOK (n : Nat) (l : Lk) : Prop where
  a : l.a < n
  b : l.b < n
  m : -1073741823 ≤ l.m ∧ l.m ≤ 1073741823
  ne : l.a ≠ l.b
theorem at_mark_ge {r : Rec} {more : List Int} {p : Int} (h : p ∈ marksR r more) : (3 + r.strikes.length : Int) ≤ atI 4 p 0 (nodesR r more) ∧ atI 4 p 0 (nodesR r more) < ((nodesR r more).length : Int) := by
  obtain ⟨h1, h2⟩ := at_mark h
  refine ⟨?_, h2⟩
  have e : atI 4 p 0 (nodesR r more) = atI 4 p (0 + (nd0 ++ ndS r.strikes.length).length) (ndM (marksR r more)) := by
    unfold nodesR
    refine atI_append 4 p _ _ 0 fun x hx => ?_
    rintro ⟨h3, _⟩
    rcases List.mem_append.1 hx with hx | hx
    · unfold nd0 at hx
      simp only [List.mem_cons, List.not_mem_nil, or_false] at hx
      rcases hx with rfl | rfl | rfl <;> simp at h3
    · unfold ndS at hx
      obtain ⟨i, _, rfl⟩ := List.mem_map.1 hx
      simp at h3
  rw [e] at h1 ⊢
  rcases atI_case 4 p (ndM (marksR r more)) (0 + (nd0 ++ ndS r.strikes.length).length) with ⟨h3, _⟩ | ⟨i, _, h3, _⟩
  · rw [h3] at h1; exact absurd h1 (by decide)
  · rw [h3, List.length_append, nd0_len, ndS_len]; omega
theorem bothL_ok {n k : Nat} {x : Span} (h0 : 0 < k) (hk : k < n) (hx : 0 ≤ x.lo ∧ x.lo ≤ x.hi ∧ x.hi ≤ 1073741823) : ∀ l ∈ bothL k x, LkOK n l := by
  intro l hl
  unfold bothL at hl
  simp only [List.mem_cons, List.not_mem_nil, or_false] at hl
  rcases hl with rfl | rfl
  · exact ⟨by dsimp only; omega, hk, by dsimp only; omega, by dsimp only; omega⟩
  · exact ⟨hk, by dsimp only; omega, by dsimp only; omega, by dsimp only; omega⟩
theorem needleL_ok {r : Rec} {more : List Int} {k : Nat} {x : Span} (hk : k < 3 + r.strikes.length) (h1 : x.lo ∈ marksR r more) (h2 : x.hi + 1 ∈ marksR r more) : ∀ l ∈ needleL (nodesR r more) k x, LkOK (nodesR r more).length l := by
  intro l hl
  obtain ⟨a1, a2⟩ := at_mark_ge h1
  obtain ⟨b1, b2⟩ := at_mark_ge h2
  unfold needleL at hl
  simp only [List.mem_cons, List.not_mem_nil, or_false] at hl
  rcases hl with rfl | rfl
  · exact ⟨by dsimp only; omega, by dsimp only; omega, by dsimp only; omega, by dsimp only; omega⟩
  · exact ⟨by dsimp only; omega, by dsimp only; omega, by dsimp only; omega, by dsimp only; omega⟩
theorem pairL_ok {s : Session} (hs : s.R) {n i : Nat} {x : Int} (hx : 0 ≤ x) : ∀ (l : List Int) (k : Nat), i < k → k + l.length ≤ n → (∀ y ∈ l, x ≤ y ∧ y ≤ 43200) → (∀ z ∈ pairL s i x k l, LkOK n z) ∧ (pairL s i x k l).length = 2 * l.length
  | [], k, _, _, _ => ⟨fun z hz => by simp [pairL] at hz, rfl⟩
  | y :: l, k, hik, hkn, hy => by
    obtain ⟨y1, y2⟩ := hy y (by simp)
    obtain ⟨b1, b2, b3, b4⟩ := leastR_bound s x y hs hx y1 y2
    simp only [List.length_cons] at hkn
    obtain ⟨h1, h2⟩ := pairL_ok hs (n := n) (i := i) hx l (k + 1) (by omega) (by omega) (fun z hz => hy z (by simp [hz]))
    refine ⟨fun z hz => ?_, by simp only [pairL, List.length_cons, h2]; omega⟩
    simp only [pairL, List.mem_cons] at hz
    rcases hz with rfl | rfl | hz
    · exact ⟨by dsimp only; omega, by dsimp only; omega, by dsimp only; omega, by dsimp only; omega⟩
    · exact ⟨by dsimp only; omega, by dsimp only; omega, by dsimp only; omega, by dsimp only; omega⟩
    · exact h1 z hz
theorem pairsL_ok {s : Session} (hs : s.R) {n : Nat} : ∀ (l : List Int) (i : Nat), i + l.length ≤ n → l.Pairwise (· < ·) → (∀ y ∈ l, 0 ≤ y ∧ y ≤ 43200) → (∀ z ∈ pairsL s i l, LkOK n z) ∧ (pairsL s i l).length ≤ 2 * l.length * l.length
  | [], i, _, _, _ => ⟨fun z hz => by simp [pairsL] at hz, by simp [pairsL]⟩
  | x :: l, i, hin, hp, hy => by
    obtain ⟨p1, p2⟩ := List.pairwise_cons.1 hp
    obtain ⟨x1, x2⟩ := hy x (by simp)
    simp only [List.length_cons] at hin
    obtain ⟨h1, h2⟩ := pairL_ok hs (n := n) (i := i) x1 l (i + 1) (by omega) (by omega) (fun y h => ⟨Int.le_of_lt (p1 y h), (hy y (by simp [h])).2⟩)
    obtain ⟨g1, g2⟩ := pairsL_ok hs (n := n) l (i + 1) (by omega) p2 (fun y h => hy y (by simp [h]))
    refine ⟨fun z hz => ?_, ?_⟩
    · simp only [pairsL, List.mem_append] at hz
      rcases hz with hz | hz
      · exact h1 z hz
      · exact g1 z hz
    · simp only [pairsL, List.length_append, List.length_cons, h2]
      have : 2 * (l.length + 1) * (l.length + 1) = 2 * l.length * l.length + 4 * l.length + 2 := by
        simp only [Nat.mul_add, Nat.add_mul]; omega
      omega
theorem sgL_ok {r : Rec} (hv : r.V) {n : Nat} (hn : 3 + r.strikes.length ≤ n) : ∀ l : List Sight, (∀ x ∈ l, x ∈ r.sights) → (∀ z ∈ sgL r l, LkOK n z) ∧ (sgL r l).length = 2 * l.length
  | [], _ => ⟨fun z hz => by simp [sgL] at hz, rfl⟩
  | x :: l, h => by
    obtain ⟨h1, h2⟩ := sgL_ok hv hn l (fun y hy => h y (by simp [hy]))
    have hx := hv.sights x (h x (by simp))
    obtain ⟨i1, i2⟩ := strikeI_lt (n := x.strike) (l := r.strikes) (k := r.strikes.length) (by rw [List.take_length]; exact hx.2.2.2)
    have hb := bothL_ok (n := n) (k := (3 + strikeI x.strike 0 r.strikes).toNat) (x := x.seen) (by omega) (by omega) ⟨hx.1, hx.2.1, hx.2.2.1⟩
    refine ⟨fun z hz => ?_, by simp only [sgL, List.length_append, bothL_len, h2, List.length_cons]; omega⟩
    simp only [sgL, List.mem_append] at hz
    rcases hz with hz | hz
    · exact hb z hz
    · exact h1 z hz
theorem rwL_ok {S n : Nat} (hn : 3 + S ≤ n) : ∀ (c i : Nat), i + c = S + 1 → (∀ z ∈ rwL S c i, LkOK n z) ∧ (rwL S c i).length = c
  | 0, i, _ => ⟨fun z hz => by simp [rwL] at hz, rfl⟩
  | c + 1, i, h => by
    obtain ⟨h1, h2⟩ := rwL_ok hn c (i + 1) (by omega)
    refine ⟨fun z hz => ?_, by simp [rwL, h2]⟩
    simp only [rwL, List.mem_cons] at hz
    rcases hz with rfl | hz
    · unfold rowK
      refine ⟨?_, ?_, by dsimp only; omega, ?_⟩ <;> dsimp only <;> (try split) <;> (try split) <;> omega
    · exact h1 z hz
theorem ndL_ok {r : Rec} {more : List Int} : ∀ (l : List Strike) (i : Nat), i + l.length ≤ r.strikes.length → (∀ x ∈ l, x ∈ r.strikes) → (∀ z ∈ ndL (nodesR r more) i l, LkOK (nodesR r more).length z) ∧ (ndL (nodesR r more) i l).length = 2 * l.length
  | [], _, _, _ => ⟨fun z hz => by simp [ndL] at hz, rfl⟩
  | x :: l, i, hi, h => by
    simp only [List.length_cons] at hi
    obtain ⟨h1, h2⟩ := ndL_ok (more := more) l (i + 1) (by omega) (fun y hy => h y (by simp [hy]))
    have hx := h x (by simp)
    have hb := needleL_ok (r := r) (more := more) (k := 3 + i) (x := x.pos) (by omega) (marksR_mem.2 (.inr (.inl ⟨x, hx, .inl rfl⟩))) (marksR_mem.2 (.inr (.inl ⟨x, hx, .inr rfl⟩)))
    refine ⟨fun z hz => ?_, by simp only [ndL, List.length_append, needleL_len, h2, List.length_cons]; omega⟩
    simp only [ndL, List.mem_append] at hz
    rcases hz with hz | hz
    · exact hb z hz
    · exact h1 z hz
/-- The links of a valid record. -/
theorem linksR_ok {r : Rec} (hv : r.V) {more : List Int} (hml : more.length ≤ 8) (hmb : ∀ a ∈ more, 0 ≤ a ∧ a ≤ 43200) : (∀ l ∈ linksR r more, LkOK (nodesR r more).length l) ∧ (linksR r more).length ≤ 10000 ∧ (nodesR r more).length ≤ 100 := by
  have hnl := nodesR_len r more
  have hmk := marksR_len r more
  have hns := hv.nstrikes
  have hng := hv.nsights
  have h3 : 3 + r.strikes.length ≤ (nodesR r more).length := by omega
  have hm := fun p => marksR_mem (r := r) (more := more) (a := p)
  have b1 := bothL_ok (n := (nodesR r more).length) (k := 1) (x := r.s.inn) (by omega) (by omega) hv.inn
  have b2 := bothL_ok (n := (nodesR r more).length) (k := 2) (x := r.s.out) (by omega) (by omega) hv.out
  obtain ⟨s1, s2⟩ := sgL_ok hv h3 r.sights (fun _ h => h)
  obtain ⟨w1, w2⟩ := rwL_ok h3 (r.strikes.length + 1) 0 (by omega)
  have d1 := needleL_ok (r := r) (more := more) (k := 1) (x := r.s.zero) (by omega) ((hm _).2 (.inl (.inl rfl))) ((hm _).2 (.inl (.inr (.inl rfl))))
  have d2 := needleL_ok (r := r) (more := more) (k := 2) (x := r.s.fin) (by omega) ((hm _).2 (.inl (.inr (.inr (.inl rfl))))) ((hm _).2 (.inl (.inr (.inr (.inr rfl)))))
  obtain ⟨n1, n2⟩ := ndL_ok (r := r) (more := more) r.strikes 0 (by omega) (fun _ h => h)
  obtain ⟨p1, p2⟩ := pairsL_ok hv.r (n := (nodesR r more).length) (marksR r more) (3 + r.strikes.length) (by omega) (marksR_sorted r more) (fun y h => marksR_bound hv hmb h)
  have hp : 2 * (marksR r more).length * (marksR r more).length ≤ 2 * 36 * 36 := Nat.mul_le_mul (by omega) (by omega)
  refine ⟨fun l hl => ?_, ?_, by omega⟩
  · unfold linksR at hl
    simp only [List.mem_append] at hl
    rcases hl with h | h | h | h | h | h | h | h
    · exact b1 l h
    · exact b2 l h
    · exact s1 l h
    · exact w1 l h
    · exact d1 l h
    · exact n1 l h
    · exact d2 l h
    · exact p1 l h
  · unfold linksR
    simp only [List.length_append, bothL_len, needleL_len, s2, w2, n2]
    omega
end Go.Proofs.Ks

namespace Go.Proofs.Ks
open Go Go.Pg Go.Proofs

theorem links_facts {r : Rec} (hv : r.V) {more : List Int} (hml : more.length ≤ 8) (hmb : ∀ a ∈ more, 0 ≤ a ∧ a ≤ 43200) : (nodesR r more).length ≤ 100 ∧ (linksR r more).length ≤ 10000 ∧ (∀ l ∈ linksR r more, l.a < (nodesR r more).length ∧ l.b < (nodesR r more).length) ∧ (∀ l ∈ linksR r more, -1073741823 ≤ l.m ∧ l.m ≤ 1073741823) ∧ ∀ l ∈ linksR r more, l.a ≠ l.b := by
  obtain ⟨h1, h2, h3⟩ := linksR_ok hv hml hmb
  exact ⟨h3, h2, fun l hl => ⟨(h1 l hl).a, (h1 l hl).b⟩, fun l hl => (h1 l hl).m, fun l hl => (h1 l hl).ne⟩
def tightR (r : Rec) (more : List Int) : Option Mx := closureF (nodesR r more).length (linksR r more)
theorem closure_bd {n : Nat} {L : List Lk} {o : Mx} (hn : n ≤ 100) (hL : ∀ l ∈ L, l.a < n ∧ l.b < n) (hm : ∀ l ∈ L, -1073741823 ≤ l.m ∧ l.m ≤ 1073741823) (h : closureF n L = some o) : Dim o n ∧ NoNeg L ∧ ∀ i k, i < n → k < n → -1000000000000000 ≤ mget o i k ∧ mget o i k ≤ 1125899906842624 := by
  have hB : ∀ l ∈ L, -(1073741823 : Int) ≤ l.m ∧ l.m ≤ 1073741823 := hm
  have hfar : (1073741823 : Int) * (n : Int) < far := by unfold far; omega
  rcases closure_case hL (by decide) hB hfar with ⟨o', h1, h2, h3, h4, h5⟩ | ⟨h1, _⟩
  · rw [h] at h1; injection h1 with h1; subst h1
    refine ⟨⟨h3, h4⟩, h2, fun i k hi hk => ⟨?_, (h5 i hi).le k hk⟩⟩
    by_cases hf : mget o i k < far
    · obtain ⟨s, p, hs, p1, p2⟩ := (h5 i hi).real k hk hf
      obtain ⟨q, q1, q2, q3⟩ := h2.short p1
      have q4 := q3.len q1 hL hs.1
      have q5 := (lenW_bound q (fun x hx => hB x (q1.mem x hx))).1
      omega
    · have : (0 : Int) ≤ far := by decide
      omega
  · rw [h] at h1; cases h1
theorem Tight_some (r0 : Rec) (more : List Int) (hv : r0.V) (hml : more.length ≤ 8) (hmb : ∀ a ∈ more, 0 ≤ a ∧ a ≤ 43200) {o : Mx} (ho : tightR r0 more = some o) : OKv cx 62 [.agg (eRec r0), lInt more] (.tup [encM o, ab true]) := by
  obtain ⟨h1, h2, h3, h4, h5⟩ := links_facts hv hml hmb
  have hcl := closure_ok (nodesR r0 more).length (linksR r0 more) h1 h2 h3 h4 h5
  unfold tightR at ho
  rw [ho] at hcl
  obtain ⟨nd, hnd⟩ : ∃ z, nodesR r0 more = z := ⟨_, rfl⟩
  obtain ⟨L, hLk⟩ : ∃ z, linksR r0 more = z := ⟨_, rfl⟩
  have c1 := nodes_ok r0 more hv (by omega)
  have c2 := rlinks_ok r0 more hv hml hmb
  rw [hnd] at hcl c1
  rw [hLk] at hcl c2
  dsimp only at hcl
  refine OKat.of_body (rs := [4, 5]) Try.func62 rfl (by decide +kernel) rfl (by simp [Try.ntmps62]) ?_
  simp only [Try.ntmps62]
  repeat' first
    | apply AW.seq | apply AW.region | apply AW.ret | apply AW.block | apply AW.skip | apply AW.exit | apply AW.scope | apply AW.label | apply AWL.nil | apply D.nil
    | refine W.draw cx_mixed (by decide +kernel) ?_
    | ((first | (apply W.step cx_ok; decide) | (apply D.step cx_ok; decide; decide) | apply AW.cond); (simp (disch := omega) only [push_cast, simprocAttr] <;> rfl); all_goals try ((with_reducible intro hI); try first | (cases hI; done) | (simp only [INTS, zL] at hI; try first | (exfalso; omega) | (have hT : True := hI; clear hT hI))))
    | ((first | (apply W.callv cx_ok; decide) | (apply D.callv cx_ok; decide; decide)); (iterate 2 (simp (disch := omega) only [push_cast, simprocAttr] <;> rfl)); (with_reducible first | exact c1 | exact c2 | exact hcl); try first | rfl | (simp (disch := omega) only [push_cast, simprocAttr] <;> rfl))
    | ((first | apply W.ret2 | apply W.end2); (iterate 2 (try (simp (disch := omega) only [push_cast, simprocAttr] <;> rfl))))
  all_goals (show _ = _; rfl)
theorem Tight_none (r0 : Rec) (more : List Int) (hv : r0.V) (hml : more.length ≤ 8) (hmb : ∀ a ∈ more, 0 ≤ a ∧ a ≤ 43200) (ho : tightR r0 more = none) : OKv cx 62 [.agg (eRec r0), lInt more] (.tup [.lst [], ab false]) := by
  obtain ⟨h1, h2, h3, h4, h5⟩ := links_facts hv hml hmb
  have hcl := closure_ok (nodesR r0 more).length (linksR r0 more) h1 h2 h3 h4 h5
  unfold tightR at ho
  rw [ho] at hcl
  obtain ⟨nd, hnd⟩ : ∃ z, nodesR r0 more = z := ⟨_, rfl⟩
  obtain ⟨L, hLk⟩ : ∃ z, linksR r0 more = z := ⟨_, rfl⟩
  have c1 := nodes_ok r0 more hv (by omega)
  have c2 := rlinks_ok r0 more hv hml hmb
  rw [hnd] at hcl c1
  rw [hLk] at hcl c2
  dsimp only at hcl
  refine OKat.of_body (rs := [4, 5]) Try.func62 rfl (by decide +kernel) rfl (by simp [Try.ntmps62]) ?_
  simp only [Try.ntmps62]
  repeat' first
    | apply AW.seq | apply AW.region | apply AW.ret | apply AW.block | apply AW.skip | apply AW.exit | apply AW.scope | apply AW.label | apply AWL.nil | apply D.nil
    | refine W.draw cx_mixed (by decide +kernel) ?_
    | ((first | (apply W.step cx_ok; decide) | (apply D.step cx_ok; decide; decide) | apply AW.cond); (simp (disch := omega) only [push_cast, simprocAttr] <;> rfl); all_goals try ((with_reducible intro hI); try first | (cases hI; done) | (simp only [INTS, zL] at hI; try first | (exfalso; omega) | (have hT : True := hI; clear hT hI))))
    | ((first | (apply W.callv cx_ok; decide) | (apply D.callv cx_ok; decide; decide)); (iterate 2 (simp (disch := omega) only [push_cast, simprocAttr] <;> rfl)); (with_reducible first | exact c1 | exact c2 | exact hcl); try first | rfl | (simp (disch := omega) only [push_cast, simprocAttr] <;> rfl))
    | ((first | apply W.ret2 | apply W.end2); (iterate 2 (try (simp (disch := omega) only [push_cast, simprocAttr] <;> rfl))))
  all_goals (show _ = _; rfl)
theorem Consistent_ok (r0 : Rec) (hv : r0.V) : OKv cx 30 [.agg (eRec r0)] (ab (tightR r0 []).isSome) := by
  cases ho : tightR r0 [] with
  | some o =>
    have h0 : OKv cx 62 [.agg (eRec r0), .lst []] (.tup [encM o, ab true]) := Tight_some r0 [] hv (by decide) (fun a h => by cases h) ho
    refine OKat.of_body (rs := [2]) Try.func30 rfl (by decide +kernel) rfl (by simp [Try.ntmps30]) ?_
    simp only [Try.ntmps30]
    repeat' first
      | apply AW.seq | apply AW.region | apply AW.ret | apply AW.block | apply AW.skip | apply AW.exit | apply AW.scope | apply AW.label | apply AWL.nil
      | ((first | (apply W.step cx_ok; decide) | apply AW.cond); (simp (disch := omega) only [push_cast, simprocAttr] <;> rfl); all_goals try ((with_reducible intro hI); try first | (cases hI; done) | (simp only [INTS, zL] at hI; try first | (exfalso; omega) | (have hT : True := hI; clear hT hI))))
      | ((apply W.callv cx_ok; decide); (iterate 2 (simp (disch := omega) only [push_cast, simprocAttr] <;> rfl)); (with_reducible first | exact h0); try first | rfl | (simp (disch := omega) only [push_cast, simprocAttr] <;> rfl))
      | ((first | apply W.ret1 | apply W.end1); (iterate 2 (try (simp (disch := omega) only [push_cast, simprocAttr] <;> rfl))))
    all_goals (show _ = _; rfl)
  | none =>
    have h0 : OKv cx 62 [.agg (eRec r0), .lst []] (.tup [.lst [], ab false]) := Tight_none r0 [] hv (by decide) (fun a h => by cases h) ho
    refine OKat.of_body (rs := [2]) Try.func30 rfl (by decide +kernel) rfl (by simp [Try.ntmps30]) ?_
    simp only [Try.ntmps30]
    repeat' first
      | apply AW.seq | apply AW.region | apply AW.ret | apply AW.block | apply AW.skip | apply AW.exit | apply AW.scope | apply AW.label | apply AWL.nil
      | ((first | (apply W.step cx_ok; decide) | apply AW.cond); (simp (disch := omega) only [push_cast, simprocAttr] <;> rfl); all_goals try ((with_reducible intro hI); try first | (cases hI; done) | (simp only [INTS, zL] at hI; try first | (exfalso; omega) | (have hT : True := hI; clear hT hI))))
      | ((apply W.callv cx_ok; decide); (iterate 2 (simp (disch := omega) only [push_cast, simprocAttr] <;> rfl)); (with_reducible first | exact h0); try first | rfl | (simp (disch := omega) only [push_cast, simprocAttr] <;> rfl))
      | ((first | apply W.ret1 | apply W.end1); (iterate 2 (try (simp (disch := omega) only [push_cast, simprocAttr] <;> rfl))))
    all_goals (show _ = _; rfl)
theorem RBetween_ok (r0 : Rec) (a b : Nat) (hv : r0.V) {o : Mx} (ho : tightR r0 [] = some o) (ha : a < r0.strikes.length) (hb : b < r0.strikes.length) : OKv cx 25 [.agg (eRec r0), ai a, ai b] (.agg (eSpan ⟨-(mget o (3 + b) (3 + a)), mget o (3 + a) (3 + b)⟩)) := by
  have h0 : OKv cx 62 [.agg (eRec r0), .lst []] (.tup [encM o, ab true]) := Tight_some r0 [] hv (by decide) (fun a h => by cases h) ho
  obtain ⟨h1, h2, h3, h4, h5⟩ := links_facts (more := []) hv (by decide) (fun a h => by cases h)
  obtain ⟨g1, g2, g3⟩ := closure_bd h1 h3 h4 ho
  have hns := hv.nstrikes
  have hl := nodesR_len r0 []
  have c1 : OKv cx 84 [encM o, ai (3 + (a : Int)), ai (3 + (b : Int))] (.agg (eSpan ⟨-(mget o (3 + b) (3 + a)), mget o (3 + a) (3 + b)⟩)) := by
    have := between_ok o _ (3 + a) (3 + b) g1 h1 (by omega) (by omega) (g3 _ _ (by omega) (by omega))
    simpa using this
  refine OKat.of_bodyM cx_ok (rs := [.cell 6 23]) Try.func25 rfl (by decide +kernel) rfl (by simp [Try.ntmps25]) ?_
  simp only [Try.ntmps25]
  repeat' first
    | apply AW.seq | apply AW.region | apply AW.ret | apply AW.block | apply AW.skip | apply AW.exit | apply AW.scope | apply AW.label | apply AWL.nil
    | ((first | (apply W.step cx_ok; decide) | apply W.store cx_ok | apply AW.cond); (simp (disch := omega) only [push_cast, simprocAttr] <;> rfl); all_goals try ((with_reducible intro hI); try first | (cases hI; done) | (simp only [INTS, zL] at hI; try first | (exfalso; omega) | (have hT : True := hI; clear hT hI))))
    | ((apply W.callv cx_ok; decide); (iterate 2 (simp (disch := omega) only [push_cast, simprocAttr] <;> rfl)); (with_reducible first | exact h0 | exact c1); try first | rfl | (simp (disch := omega) only [push_cast, simprocAttr] <;> rfl))
    | ((first | apply W.retM | apply W.endM'); (iterate 2 (try (simp (disch := omega) only [push_cast, simprocAttr] <;> rfl))))
  all_goals (show _ = _; rfl)
theorem RWhen_ok (r0 : Rec) (p : Int) (hv : r0.V) (hp : 0 ≤ p ∧ p ≤ 43200) {o : Mx} (ho : tightR r0 [p] = some o) :
    OKv cx 26 [.agg (eRec r0), ai p] (.agg (eSpan ⟨-(mget o (atI 4 p 0 (nodesR r0 [p])).toNat 0), mget o 0 (atI 4 p 0 (nodesR r0 [p])).toNat⟩)) := by
  have hmb : ∀ a ∈ [p], 0 ≤ a ∧ a ≤ 43200 := fun a h => by rw [List.mem_singleton.1 h]; exact hp
  have h0 : OKv cx 62 [.agg (eRec r0), .lst [[ai p]]] (.tup [encM o, ab true]) := Tight_some r0 [p] hv (by simp) hmb ho
  obtain ⟨h1, h2, h3, h4, h5⟩ := links_facts (more := [p]) hv (by simp) hmb
  obtain ⟨g1, g2, g3⟩ := closure_bd h1 h3 h4 ho
  obtain ⟨m1, m2⟩ := at_mark (r := r0) (more := [p]) (p := p) (marksR_mem.2 (.inr (.inr (by simp))))
  have c0 : OKv cx 86 [.agg (eRec r0), .lst [[ai p]]] (lNode (nodesR r0 [p])) := nodes_ok r0 [p] hv (by simp)
  have c2 := rat_ok (nodesR r0 [p]) 4 p (by omega)
  obtain ⟨nd, hnd⟩ : ∃ z, nodesR r0 [p] = z := ⟨_, rfl⟩
  rw [hnd] at m1 m2 c0 c2 h1 g1 g3 ⊢
  obtain ⟨I, hI⟩ : ∃ z, atI 4 p 0 nd = z := ⟨_, rfl⟩
  rw [hI] at m1 m2 c2 ⊢
  have c1 : OKv cx 84 [encM o, ai 0, ai I] (.agg (eSpan ⟨-(mget o I.toNat 0), mget o 0 I.toNat⟩)) := by
    have := between_ok o _ 0 I.toNat g1 h1 (by omega) (by omega) (g3 _ _ (by omega) (by omega))
    rw [Int.toNat_of_nonneg m1] at this
    exact this
  refine OKat.of_bodyM cx_ok (rs := [.cell 4 23]) Try.func26 rfl (by decide +kernel) rfl (by simp [Try.ntmps26]) ?_
  simp only [Try.ntmps26]
  repeat' first
    | apply AW.seq | apply AW.region | apply AW.ret | apply AW.block | apply AW.skip | apply AW.exit | apply AW.scope | apply AW.label | apply AWL.nil
    | ((first | (apply W.step cx_ok; decide) | apply W.store cx_ok | apply AW.cond); (simp (disch := omega) only [push_cast, simprocAttr] <;> rfl); all_goals try ((with_reducible intro hI); try first | (cases hI; done) | (simp only [INTS, zL] at hI; try first | (exfalso; omega) | (have hT : True := hI; clear hT hI))))
    | ((apply W.callv cx_ok; decide); (iterate 2 (simp (disch := omega) only [push_cast, simprocAttr] <;> rfl)); (with_reducible first | exact h0 | exact c0 | exact c1 | exact c2); try first | rfl | (simp (disch := omega) only [push_cast, simprocAttr] <;> rfl))
    | ((first | apply W.retM | apply W.endM'); (iterate 2 (try (simp (disch := omega) only [push_cast, simprocAttr] <;> rfl))))
  all_goals (show _ = _; rfl)
def stateE (r : Rec) : Int := if checkE r = 0 then (if (tightR r []).isSome = true then 0 else 9) else checkE r
theorem state_ok (r0 : Rec) : OKv cx 22 [.agg (eRec r0)] (ai (stateE r0)) := by
  unfold stateE
  by_cases hc : checkE r0 = 0
  · rw [if_pos hc]
    have hv := checkE_V hc
    cases hT : (tightR r0 []).isSome with
    | true =>
      rw [if_pos rfl]
      refine OKat.of_body (rs := [2]) Try.func22 rfl (by decide +kernel) rfl (by simp [Try.ntmps22]) ?_
      simp only [Try.ntmps22]
      repeat' first
        | apply AW.seq | apply AW.region | apply AW.ret | apply AW.block | apply AW.skip | apply AW.exit | apply AW.scope | apply AW.label | apply AWL.nil
        | ((first | (apply W.step cx_ok; decide) | (apply W.gS; rfl; decide) | apply AW.cond); (simp (disch := omega) only [push_cast, simprocAttr, hc, hT] <;> rfl); all_goals try ((with_reducible intro hI); try first | (cases hI; done) | (simp only [INTS, zL] at hI; try first | (exfalso; omega) | (have hT : True := hI; clear hT hI))))
        | ((apply W.callv cx_ok; decide); (iterate 2 (simp (disch := omega) only [push_cast, simprocAttr, hc, hT] <;> rfl)); (with_reducible first | exact RCheck_ok _ | exact Consistent_ok r0 hv); try first | rfl | (simp (disch := omega) only [push_cast, simprocAttr, hc, hT] <;> rfl))
        | ((first | apply W.ret1 | apply W.end1); (iterate 2 (try (simp (disch := omega) only [push_cast, simprocAttr, hc, hT] <;> rfl))))
      all_goals (show _ = _; rfl)
    | false =>
      rw [if_neg (by decide)]
      refine OKat.of_body (rs := [2]) Try.func22 rfl (by decide +kernel) rfl (by simp [Try.ntmps22]) ?_
      simp only [Try.ntmps22]
      repeat' first
        | apply AW.seq | apply AW.region | apply AW.ret | apply AW.block | apply AW.skip | apply AW.exit | apply AW.scope | apply AW.label | apply AWL.nil
        | ((first | (apply W.step cx_ok; decide) | (apply W.gS; rfl; decide) | apply AW.cond); (simp (disch := omega) only [push_cast, simprocAttr, hc, hT] <;> rfl); all_goals try ((with_reducible intro hI); try first | (cases hI; done) | (simp only [INTS, zL] at hI; try first | (exfalso; omega) | (have hT : True := hI; clear hT hI))))
        | ((apply W.callv cx_ok; decide); (iterate 2 (simp (disch := omega) only [push_cast, simprocAttr, hc, hT] <;> rfl)); (with_reducible first | exact RCheck_ok _ | exact Consistent_ok r0 hv); try first | rfl | (simp (disch := omega) only [push_cast, simprocAttr, hc, hT] <;> rfl))
        | ((first | apply W.ret1 | apply W.end1); (iterate 2 (try (simp (disch := omega) only [push_cast, simprocAttr, hc, hT] <;> rfl))))
      all_goals (show _ = _; rfl)
  · rw [if_neg hc]
    have hcF : (checkE r0 = 0) = False := eq_false hc
    refine OKat.of_body (rs := [2]) Try.func22 rfl (by decide +kernel) rfl (by simp [Try.ntmps22]) ?_
    simp only [Try.ntmps22]
    repeat' first
      | apply AW.seq | apply AW.region | apply AW.ret | apply AW.block | apply AW.skip | apply AW.exit | apply AW.scope | apply AW.label | apply AWL.nil
      | ((first | (apply W.step cx_ok; decide) | (apply W.gS; rfl; decide) | apply AW.cond); (simp (disch := omega) only [push_cast, simprocAttr, hcF] <;> rfl); all_goals try ((with_reducible intro hI); try first | (cases hI; done) | (simp only [INTS, zL] at hI; try first | (exfalso; omega) | (have hT : True := hI; clear hT hI))))
      | ((apply W.callv cx_ok; decide); (iterate 2 (simp (disch := omega) only [push_cast, simprocAttr, hcF] <;> rfl)); (with_reducible first | exact RCheck_ok _); try first | rfl | (simp (disch := omega) only [push_cast, simprocAttr, hcF] <;> rfl))
      | ((first | apply W.ret1 | apply W.end1); (iterate 2 (try (simp (disch := omega) only [push_cast, simprocAttr, hcF] <;> rfl))))
    all_goals (show _ = _; rfl)

end Go.Proofs.Ks

/-
  A call that only reads the call's own objects. No conditions.
-/
namespace Go.Pg
open Go Go.RowKit
section
variable {C : Cx} {N : Nat} {Q : Exit → St → Prop} {s : St} {ops : Array Oper} {rest : List Oper} {ty : TypeId} {ps : String} {af : Array Edge} {d : Nat}
variable {H0 : Nat → Option AO} {b : Nat} {tg mk av : List Nat} {Fin : St → Prop} {i : Nat}

/-- The contract of a function that reads what it is handed and leaves it as it is. -/
def OKr (C : Cx) (f : FuncId) (args : List AV) (H0 : Nat → Option AO) (R : AV) : Prop :=
  ∀ (H : Nat → Option AO) (nx : Nat), (∀ id x, H0 id = some x → H id = some x) → OKm C f args H nx (fun r h n => r = R ∧ h = H ∧ n = nx)
theorem W.callr (hC : C.OK) (hN : d < N) {fo : Operand} {args : Array Operand} {tys : Array TypeId} {f : FuncId} {caps vs : List AV} {R : AV} (hf : s.ev fo = .clo f caps) (ha : evsA args.toList s.ev ++ caps = vs) (hok : OKr C f vs s.H R)
    (k : AWL C N ops Q rest (s.put d R none)) : AWL C N ops Q (⟨some d, .call { callee := .value fo, args := args, argTypes := tys }, ty, ps, af, none⟩ :: rest) s := by
  subst ha
  refine W.callm hC hN hf (hok _ _ fun _ _ h => h) ?_
  rintro r h n ⟨rfl, rfl, rfl⟩
  exact k
theorem D.callr (hC : C.OK) (hN : d < N) (hi : i ∉ tg ∧ i ∉ mk) {fo : Operand} {args : Array Operand} {tys : Array TypeId} {f : FuncId} {caps vs : List AV} {R : AV} (hf : s.ev fo = .clo f caps) (ha : evsA args.toList s.ev ++ caps = vs) (hok : OKr C f vs H0 R)
    (k : DW C N ops H0 b tg mk av Fin (i + 1) rest (s.put d R none)) :
    DW C N ops H0 b tg mk av Fin i (⟨some d, .call { callee := .value fo, args := args, argTypes := tys }, ty, ps, af, none⟩ :: rest) s := by
  subst ha
  refine ⟨R, s.put d R none, rfl, ?_, k⟩
  rw [if_neg hi.1, if_neg hi.2]
  refine ⟨none, rfl, rfl, .inl rfl, fun s' hx _ ht => ?_⟩
  have hev := ev_congr ht
  have e1 : s'.ev fo = .clo f caps := by rw [hev fo (by simp [Op.operands, Call.operands])]; exact hf
  have e2 : evsA args.toList s'.ev = evsA args.toList s.ev := evsA_congr (fun x hx => hev x (by simp only [Op.operands, Call.operands, Array.mem_append]; exact .inr (by simpa using hx)))
  refine one_of_AWL (W.callm hC hN e1 (Qr := fun r h n => r = R ∧ h = s'.H ∧ n = s'.nx) (by rw [e2]; exact hok _ _ hx) ?_)
  rintro r h n ⟨rfl, rfl, rfl⟩
  exact AWL.nil ⟨rfl, rfl⟩
theorem natNe {a b : Nat} (h : a ≠ b) : (a = b) = False := eq_false h
end
end Go.Pg

namespace Go.Proofs.Ks
open Go Go.Pg Go.Proofs

theorem rowAt_ext {H0 H : Nat → Option AO} (h : ∀ id x, H0 id = some x → H id = some x) {i : Nat} {r : Pg.Row} (hr : Pg.rowAt H0 i = some r) : Pg.rowAt H i = some r := by
  have h1 := h i _ (Pg.rowAt_eq hr)
  unfold Pg.rowAt; rw [h1]
def ixM (N : List Node) : List (Key × AV) := (N.map keyN).zip (idxV 0 N.length)
theorem at_r (N : List Node) (kd nm : Int) {g m : Nat} {a b : AV} {H0 : Nat → Option AO} (hg : Pg.rowAt H0 g = some { k := 3, es := [[a, .map m, b]], ty := 135 }) (hm : H0 m = some (.mp (.map .pair) 0 (ixM N))) :
    OKr cx 83 [.ptr g 0 0 1, ai kd, ai nm] H0 (ai (atP kd nm N)) := by
  intro H nx hx
  have hg1 := rowAt_ext hx hg
  have hm1 := hx _ _ hm
  unfold ixM at hm1
  refine OKm.of_body cx_ok (rs := [.tmp 6]) Try.func83 rfl (by decide +kernel) rfl (by simp [Try.ntmps83]) ?_
  simp only [Try.ntmps83]
  repeat' first
    | apply AW.seq | apply AW.region | apply AW.ret | apply AW.block | apply AW.skip | apply AW.exit | apply AW.scope | apply AW.label | apply AWL.nil
    | ((first | (apply W.step cx_ok; decide) | apply AW.cond | apply W.mapUpdate cx_ok); (simp (disch := omega) only [push_cast, simprocAttr, node_look, zM, TyD.isAgg, hg1, hm1] <;> rfl); all_goals try ((with_reducible intro hI); try first | (cases hI; done) | (simp only [INTS, zL] at hI; try first | (exfalso; omega) | (have hT : True := hI; clear hT hI))))
    | (refine W.makeMap cx_ok (by simp only [push_cast, simprocAttr] <;> rfl) (by decide) ?_)

  all_goals
    ((first | apply W.retX | apply W.endX); (simp (disch := omega) only [push_cast, simprocAttr, hg1, hm1] <;> rfl); (refine ⟨?_, ?_, ?_⟩ <;> (first | rfl | (simp (disch := omega) only [push_cast, simprocAttr, hg1, hm1] <;> rfl))))

theorem upd_same {H : Nat → Option AO} {a : Nat} {x y : AO} (h : x = y) : updH H a x = updH H a y := by rw [h]
theorem between0_m (nd : Int) (x : Span) (hn : 0 ≤ nd) (hb : 0 ≤ x.lo ∧ x.lo ≤ 1099511627776) {lb : Nat} {H : Nat → Option AO} {nx : Nat} (hlb : lb < nx) {args : List AV} (ha : args = [ai nd, .agg (eSpan x), .ptr lb 0 0 1])
    (h1 : Pg.rowAt H lb = some { k := 1, es := [[.v (.slice none 0 0)]], ty := 62 }) :
    OKm cx 122 args H nx (fun r H' nx' => r = .tup [] ∧ H' = updH (updH (updH (updH H nx (.row { k := 2, es := [eSpan x], ty := 23 })) (nx + 1) (.row { k := 3, es := (bothL nd.toNat x).map eLink, ty := 66 })) (nx + 2) (.row { k := 3, es := (bothL nd.toNat x).map eLink, ty := 66, lo := 2 })) lb (.row { k := 1, es := [[.ref (nx + 2) 0 2]], ty := 62 }) ∧ nx' = nx + 3) := by
  subst ha
  have en : ((nd.toNat : Nat) : Int) = nd := Int.toNat_of_nonneg hn
  refine OKm.of_body cx_ok (rs := []) Try.func122 rfl (by decide +kernel) rfl (by simp [Try.ntmps122]) ?_
  simp only [Try.ntmps122]
  repeat' first
    | apply AW.seq | apply AW.region | apply AW.ret | apply AW.block | apply AW.skip | apply AW.exit | apply AW.scope | apply AW.label | apply AWL.nil
    | ((first | (apply W.step cx_ok; decide) | apply W.store cx_ok | apply AW.cond); (simp (disch := (first | omega | (simp only [zE, zF, zD, zC, zA, zB]; omega))) only [push_cast, simprocAttr, takeM, dropM, zK, zA, zB, zN, zQ, zR, zO, zP, zT, zS, zU, leT, zH, pureL, pureA, natNe, h1, zJ] <;> rfl); all_goals try ((with_reducible intro hI); try first | (cases hI; done) | (simp only [INTS, zL] at hI; try first | (exfalso; omega) | (have hT : True := hI; clear hT hI))))
    | (apply W.append cx_ok; decide; rfl; rfl; rfl; decide; (iterate 3 (simp (disch := (first | omega | (simp only [zE, zF, zD, zC, zA, zB]; omega))) only [push_cast, simprocAttr, takeM, dropM, zK, zA, zB, zN, zQ, zR, zO, zP, zT, zS, zU, leT, zH, pureL, pureA, natNe, h1, zJ] <;> rfl)); (first | (focus (simp; done)) | (intro c hc; obtain ⟨x, _, rfl⟩ := List.mem_map.1 hc; rfl)); ((first | rfl | simp (disch := omega) only [push_cast])); ((try dsimp only); (try simp only [zF, zE, zD, zC, zA, zB]); omega); ((try dsimp only); (try simp only [zF, zE, zD, zC, zA, zB]); omega))

  all_goals
    ((first | apply W.retX | apply W.endX); (simp (disch := omega) only [push_cast, simprocAttr] <;> rfl); (refine ⟨rfl, ?_, ?_⟩ <;> (simp (disch := omega) only [push_cast, simprocAttr, natNe, h1, bothL, zX, zW, zD, zC, yD, en, zV, zJ, St.put, putH, maxNx, yA, updO, upd_twice] <;> rfl)))

theorem between_m (nd : Int) (x : Span) (hn : 0 ≤ nd) (hb : 0 ≤ x.lo ∧ x.lo ≤ 1099511627776) (L : List Lk) {lw : Nat} (hl : L.length ≤ 1000000) {lb lo : Nat} {H : Nat → Option AO} {nx : Nat} (hne : lb ≠ lo) (hlb : lb < nx) (hlo : lo < nx) {args : List AV} (ha : args = [ai nd, .agg (eSpan x), .ptr lb 0 0 1])
    (h1 : Pg.rowAt H lb = some { k := 1, es := [[.ref lo 0 L.length]], ty := 62 }) (h2 : Pg.rowAt H lo = some { k := 3, es := L.map eLink, ty := 66, lo := lw }) (hlw : lw ≤ L.length) :
    OKm cx 122 args H nx (fun r H' nx' => r = .tup [] ∧ H' = updH (updH (updH (updH H nx (.row { k := 2, es := [eSpan x], ty := 23 })) (nx + 1) (.row { k := 3, es := (bothL nd.toNat x).map eLink, ty := 66 })) lo (.row { k := 3, es := (L ++ bothL nd.toNat x).map eLink, ty := 66, lo := L.length + 2 })) lb (.row { k := 1, es := [[.ref lo 0 (L.length + 2)]], ty := 62 }) ∧ nx' = nx + 2) := by
  subst ha
  have en : ((nd.toNat : Nat) : Int) = nd := Int.toNat_of_nonneg hn
  refine OKm.of_body cx_ok (rs := []) Try.func122 rfl (by decide +kernel) rfl (by simp [Try.ntmps122]) ?_
  simp only [Try.ntmps122]
  repeat' first
    | apply AW.seq | apply AW.region | apply AW.ret | apply AW.block | apply AW.skip | apply AW.exit | apply AW.scope | apply AW.label | apply AWL.nil
    | ((first | (apply W.step cx_ok; decide) | apply W.store cx_ok | apply AW.cond); (simp (disch := (first | omega | (simp only [zE, zF, zD, zC, zA, zB]; omega))) only [push_cast, simprocAttr, takeM, dropM, zK, zA, zB, zN, zQ, zR, zO, zP, zT, zS, zU, leT, zH, pureL, pureA, natNe, h1, h2, hlw] <;> rfl); all_goals try ((with_reducible intro hI); try first | (cases hI; done) | (simp only [INTS, zL] at hI; try first | (exfalso; omega) | (have hT : True := hI; clear hT hI))))
    | (apply W.append cx_ok; decide; rfl; rfl; rfl; decide; (iterate 3 (simp (disch := (first | omega | (simp only [zE, zF, zD, zC, zA, zB]; omega))) only [push_cast, simprocAttr, takeM, dropM, zK, zA, zB, zN, zQ, zR, zO, zP, zT, zS, zU, leT, zH, pureL, pureA, natNe, h1, h2, hlw] <;> rfl)); (first | (focus (simp; done)) | (intro c hc; obtain ⟨x, _, rfl⟩ := List.mem_map.1 hc; rfl)); ((first | rfl | simp (disch := omega) only [push_cast])); ((try dsimp only); (try simp only [zF, zE, zD, zC, zA, zB]); omega); ((try dsimp only); (try simp only [zF, zE, zD, zC, zA, zB]); omega))

  all_goals
    ((first | apply W.retX | apply W.endX); (simp (disch := omega) only [push_cast, simprocAttr] <;> rfl); (refine ⟨rfl, ?_, ?_⟩ <;> (simp (disch := omega) only [push_cast, simprocAttr, natNe, h1, h2, bothL, zY, zX, zW, zE, zD, zC, yD, en, zV, zJ, St.put, putH, updO] <;> rfl)))

theorem ixM_snoc (N : List Node) (n : Node) : ixM (N ++ [n]) = ixM N ++ [(keyN n, ai N.length)] := by
  unfold ixM idxV
  rw [List.map_append, List.length_append, List.length_singleton, List.range'_concat, List.map_append, List.zip_append (by simp)]
  simp
theorem putM_new (v : AV) (kd nm : Int) : ∀ (l : List (Key × AV)), (∀ x ∈ l, x.1 ≠ .pair kd nm) → (∀ x ∈ l, ∃ a b, x.1 = .pair a b) → putM (.pair kd nm) v l = l ++ [(.pair kd nm, v)]
  | [], _, _ => rfl
  | (k, u) :: l, h, h2 => by
    obtain ⟨a, b, hk⟩ := h2 (k, u) (by simp)
    simp only at hk
    subst hk
    have h1 := h (.pair a b, u) (by simp)
    have ih := putM_new v kd nm l (fun x hx => h x (by simp [hx])) (fun x hx => h2 x (by simp [hx]))
    have hs : Key.same (.pair kd nm) (.pair a b) = false := by
      simp only [Key.same]
      cases hq : (kd == a && nm == b) with
      | false => rfl
      | true => simp only [Bool.and_eq_true, beq_iff_eq] at hq; exact absurd (by rw [hq.1, hq.2]) h1
    simp only [putM, hs, Bool.false_eq_true, if_false, ih, List.cons_append]
theorem putM_ix {N : List Node} {n : Node} (h : n ∉ N) : putM (.pair n.kind n.num) (ai N.length) (ixM N) = ixM (N ++ [n]) := by
  rw [ixM_snoc]
  refine putM_new _ _ _ _ (fun x hx => ?_) (fun x hx => ?_)
  all_goals
    obtain ⟨y, hy, hxy⟩ := List.mem_map.1 (List.of_mem_zip hx).1
  · rw [← hxy]; intro e
    simp only [keyN, Key.pair.injEq] at e
    have : y = n := by cases y; cases n; simp_all
    exact h (this ▸ hy)
  · exact ⟨y.kind, y.num, hxy.symm⟩
/-- A system that is being built: its nodes; its links are seen elsewhere. -/
structure SysB (H : Nat → Option AO) (c g nd m : Nat) (N : List Node) (b : AV) : Prop where
  c : Pg.rowAt H c = some { k := 1, es := [[.ptr g 0 0 1]], ty := 122 }
  g : Pg.rowAt H g = some { k := 3, es := [[.ref nd 0 N.length, .map m, b]], ty := 135 }
  nd : Pg.rowAt H nd = some { k := 2, es := N.map eNode, ty := 144, lo := N.length }
  m : H m = some (.mp (.map .pair) 0 (ixM N))
theorem add_m (N : List Node) (n : Node) (hl : N.length ≤ 1000000) (hnew : n ∉ N) {b : AV} {c g nd m : Nat} {H : Nat → Option AO} {nx : Nat} (hS : SysB H c g nd m N b) (hd1 : c ≠ g ∧ c ≠ nd ∧ c ≠ m) (hd2 : g ≠ nd ∧ g ≠ m ∧ nd ≠ m) (hc : c < nx) (hg : g < nx) (hnd : nd < nx) (hm : m < nx) :
    OKm cx 111 [.agg (eNode n), .ptr c 0 0 1] H nx (fun r H' nx' => SysB H' c g nd m (N ++ [n]) b ∧ nx ≤ nx' ∧ ∀ j, j < nx → j ≠ g → j ≠ nd → j ≠ m → H' j = H j) := by
  have h1 := hS.c
  have h2 := hS.g
  have h3 := hS.nd
  have h4 := hS.m
  have hput := putM_ix hnew
  obtain ⟨d1, d2, d3⟩ := hd1
  obtain ⟨d4, d5, d6⟩ := hd2
  refine OKm.of_body cx_ok (rs := []) Try.func111 rfl (by decide +kernel) rfl (by simp [Try.ntmps111]) ?_
  simp only [Try.ntmps111]
  refine AW.fresh fun hfr0 => ?_
  have hfr : ∀ id, nx ≤ id → H id = none := hfr0
  repeat' first
    | apply AW.seq | apply AW.region | apply AW.ret | apply AW.block | apply AW.skip | apply AW.exit | apply AW.scope | apply AW.label | apply AWL.nil | apply D.nil
    | refine AW.draw (id := 1) cx_mixed [10] [] [] 0 (by decide +kernel) ?_
    | refine AW.draw (id := 2) cx_mixed [7, 10] [0, 8, 9] [nd, g] 11 (by decide +kernel) ?_
    | refine W.draw cx_mixed (by decide +kernel) ?_
    | ((first | (apply W.step cx_ok; decide) | (apply D.step cx_ok; decide; decide) | apply W.store cx_ok | apply AW.cond | apply W.mapUpdate cx_ok); (simp (disch := (first | omega | (simp only [zE, zF, zD, zC, zA, zB]; omega))) only [push_cast, simprocAttr, takeM, dropM, zK, zA, zB, zN, zQ, zR, zO, zP, zT, zS, zU, leT, zH, pureL, pureA, natNe, hfr, h1, h2, h3, h4, hput, zI, zG, TyD.isAgg] <;> rfl); all_goals try ((with_reducible intro hI); try first | (cases hI; done) | (simp only [INTS, zL] at hI; try first | (exfalso; omega) | (have hT : True := hI; clear hT hI))))
    | ((first | (apply D.store cx_ok; decide) | (apply D.stept cx_ok; decide; decide) | (apply D.mapUpdate cx_ok; decide) | (apply D.stepm cx_ok; decide; decide)); (simp (disch := (first | omega | (simp only [zE, zF, zD, zC, zA, zB]; omega))) only [push_cast, simprocAttr, takeM, dropM, zK, zA, zB, zN, zQ, zR, zO, zP, zT, zS, zU, leT, zH, pureL, pureA, natNe, hfr, h1, h2, h3, h4, hput, zI, zG, TyD.isAgg] <;> rfl); try first | exact .inl rfl | exact .inr (by simp))
    | (refine W.makeMap cx_ok (by simp only [push_cast, simprocAttr] <;> rfl) (by decide) ?_)
    | ((apply D.alloc cx_ok; decide; decide); (simp (disch := (first | omega | (simp only [zE, zF, zD, zC, zA, zB]; omega))) only [push_cast, simprocAttr, takeM, dropM, zK, zA, zB, zN, zQ, zR, zO, zP, zT, zS, zU, leT, zH, pureL, pureA, natNe, hfr, h1, h2, h3, h4, hput, zI, zG, TyD.isAgg] <;> rfl); (simp (disch := (first | omega | (simp only [zE, zF, zD, zC, zA, zB]; omega))) only [push_cast, simprocAttr, takeM, dropM, zK, zA, zB, zN, zQ, zR, zO, zP, zT, zS, zU, leT, zH, pureL, pureA, natNe, hfr, h1, h2, h3, h4, hput, zI, zG, TyD.isAgg, updH_at, zJ]); (simp (disch := (first | omega | (simp only [zE, zF, zD, zC, zA, zB]; omega))) only [push_cast, simprocAttr, takeM, dropM, zK, zA, zB, zN, zQ, zR, zO, zP, zT, zS, zU, leT, zH, pureL, pureA, natNe, hfr, h1, h2, h3, h4, hput, zI, zG, TyD.isAgg] <;> omega))
    | ((apply D.alloct cx_ok; decide; decide); (simp (disch := (first | omega | (simp only [zE, zF, zD, zC, zA, zB]; omega))) only [push_cast, simprocAttr, takeM, dropM, zK, zA, zB, zN, zQ, zR, zO, zP, zT, zS, zU, leT, zH, pureL, pureA, natNe, hfr, h1, h2, h3, h4, hput, zI, zG, TyD.isAgg] <;> rfl); first | exact .inl rfl | exact .inr (by simp))
    | (apply W.append cx_ok; decide; rfl; rfl; rfl; decide; (iterate 3 (simp (disch := (first | omega | (simp only [zE, zF, zD, zC, zA, zB]; omega))) only [push_cast, simprocAttr, takeM, dropM, zK, zA, zB, zN, zQ, zR, zO, zP, zT, zS, zU, leT, zH, pureL, pureA, natNe, hfr, h1, h2, h3, h4, hput, zI, zG, TyD.isAgg] <;> rfl)); (first | (focus (simp; done)) | (intro c hc; obtain ⟨x, _, rfl⟩ := List.mem_map.1 hc; rfl)); ((first | rfl | simp (disch := omega) only [push_cast])); ((try dsimp only); (try simp only [zF, zE, zD, zC, zA, zB]); omega); ((try dsimp only); (try simp only [zF, zE, zD, zC, zA, zB]); omega))
    | (apply D.append cx_ok; decide; decide; rfl; rfl; rfl; decide; (iterate 3 (simp (disch := (first | omega | (simp only [zE, zF, zD, zC, zA, zB]; omega))) only [push_cast, simprocAttr, takeM, dropM, zK, zA, zB, zN, zQ, zR, zO, zP, zT, zS, zU, leT, zH, pureL, pureA, natNe, hfr, h1, h2, h3, h4, hput, zI, zG, TyD.isAgg] <;> rfl)); (first | (focus (simp; done)) | (intro c hc; obtain ⟨x, _, rfl⟩ := List.mem_map.1 hc; rfl)); ((first | rfl | (simp (disch := omega) only [push_cast]; done))); ((try dsimp only); (try simp only [zF, zE, zD, zC, zA, zB]); omega); ((try dsimp only); (try simp only [zF, zE, zD, zC, zA, zB]); omega); first | exact .inl rfl | exact .inr (by simp))

  all_goals
    ((first | apply W.retX | apply W.endX); (simp (disch := omega) only [push_cast, simprocAttr, natNe, hfr, h1, h2, h3, h4, hput, zI, zG, TyD.isAgg] <;> rfl); (refine ⟨⟨?_, ?_, ?_, ?_⟩, ?_, fun j hj hj1 hj2 hj3 => ?_⟩ <;> (first | rfl | (simp (disch := omega) only [push_cast, simprocAttr, natNe, hfr, h1, h2, h3, h4, hput, zI, zG, TyD.isAgg, zJ, zY, zX, zW, zE, zD, zC, isEmpty_map, lo_len, zV] <;> first | rfl | omega) | omega)))
/-- The parts of a system as the links are yielded. -/
structure SysY (H : Nat → Option AO) (rb gb pb g m : Nat) (r : Rec) (pl : List Int) (N : List Node) : Prop where
  r : Pg.rowAt H rb = some { k := 14, es := [eRec r], ty := 30 }
  gb : Pg.rowAt H gb = some { k := 1, es := [[.ptr g 0 0 1]], ty := 122 }
  pb : Pg.rowAt H pb = some { k := 1, es := [[lInt pl]], ty := 41 }
  g : ∃ a b, Pg.rowAt H g = some { k := 3, es := [[a, .map m, b]], ty := 135 }
  m : H m = some (.mp (.map .pair) 0 (ixM N))
theorem all_m (r : Rec) (pl : List Int) {g : Nat} {H : Nat → Option AO} {nx : Nat} :
    OKm cx 113 [.ptr g 0 0 1, .agg (eRec r), lInt pl] H nx (fun v H' nx' => v = .clo 121 [.ptr (nx + 1) 0 0 1, .ptr nx 0 0 1, .ptr (nx + 2) 0 0 1] ∧ Pg.rowAt H' nx = some { k := 1, es := [[.ptr g 0 0 1]], ty := 122 } ∧
      Pg.rowAt H' (nx + 1) = some { k := 14, es := [eRec r], ty := 30 } ∧ Pg.rowAt H' (nx + 2) = some { k := 1, es := [[lInt pl]], ty := 41 } ∧ nx' = nx + 3 ∧ ∀ j, j < nx → H' j = H j) := by
  refine OKm.of_body cx_ok (rs := [.tmp 6]) Try.func113 rfl (by decide +kernel) rfl (by simp [Try.ntmps113]) ?_
  simp only [Try.ntmps113]
  repeat' first
    | apply AW.seq | apply AW.region | apply AW.ret | apply AW.block | apply AW.skip | apply AW.exit | apply AW.scope | apply AW.label | apply AWL.nil
    | ((first | (apply W.step cx_ok; decide) | apply AW.cond); (simp (disch := omega) only [push_cast, simprocAttr, natNe] <;> rfl); all_goals try ((with_reducible intro hI); try first | (cases hI; done) | (simp only [INTS, zL] at hI; try first | (exfalso; omega) | (have hT : True := hI; clear hT hI))))

  all_goals
    ((first | apply W.retX | apply W.endX); (simp (disch := omega) only [push_cast, simprocAttr, natNe] <;> rfl); (refine ⟨?_, ?_, ?_, ?_, ?_, fun j hj => ?_⟩ <;> (first | rfl | (simp (disch := omega) only [push_cast, simprocAttr, natNe, zJ] <;> first | rfl | omega) | omega)))

theorem inside_ok (p : Stop) (x y : Int) : OKv cx 123 [.agg (eStop p), .iptr [ai x] 0, .iptr [ai y] 0] (ab (decide (x ≤ p.pos) && decide (p.pos < y))) := by
  refine OKat.of_body (rs := [4]) Try.func123 rfl (by decide +kernel) rfl (by simp [Try.ntmps123]) ?_
  simp only [Try.ntmps123]
  repeat' first
    | apply AW.seq | apply AW.region | apply AW.ret | apply AW.block | apply AW.skip | apply AW.exit | apply AW.scope | apply AW.label | apply AWL.nil
    | ((first | (apply W.step cx_ok; decide) | (apply W.gS; rfl; decide) | apply AW.cond); (simp (disch := omega) only [push_cast, simprocAttr] <;> rfl); all_goals try ((with_reducible intro hI); try first | (cases hI; done) | (simp only [INTS, zL] at hI; try first | (exfalso; omega) | (have hT : True := hI; clear hT hI))))
    | ((first | apply W.ret1 | apply W.end1); (iterate 2 (try (simp (disch := omega) only [push_cast, simprocAttr] <;> rfl))))
  all_goals (show _ = _; first | rfl | (simp [*]; done) | (simp; omega) | (simp_all; omega))
theorem secsHi_ok (p : Stop) : OKv cx 126 [.agg (eStop p)] (ai p.secs.hi) := by
  refine OKat.of_body (rs := [2]) Try.func126 rfl (by decide +kernel) rfl (by simp [Try.ntmps126]) ?_
  simp only [Try.ntmps126]
  repeat' first
    | apply AW.seq | apply AW.region | apply AW.ret | apply AW.block | apply AW.skip | apply AW.exit | apply AW.scope | apply AW.label | apply AWL.nil
    | ((first | (apply W.step cx_ok; decide) | apply AW.cond); (simp (disch := omega) only [push_cast, simprocAttr] <;> rfl); all_goals try ((with_reducible intro hI); try first | (cases hI; done) | (simp only [INTS, zL] at hI; try first | (exfalso; omega) | (have hT : True := hI; clear hT hI))))
    | ((first | apply W.ret1 | apply W.end1); (iterate 2 (try (simp (disch := omega) only [push_cast, simprocAttr] <;> rfl))))
  all_goals (show _ = _; rfl)
theorem secsLo_ok (p : Stop) : OKv cx 127 [.agg (eStop p)] (ai p.secs.lo) := by
  refine OKat.of_body (rs := [2]) Try.func127 rfl (by decide +kernel) rfl (by simp [Try.ntmps127]) ?_
  simp only [Try.ntmps127]
  repeat' first
    | apply AW.seq | apply AW.region | apply AW.ret | apply AW.block | apply AW.skip | apply AW.exit | apply AW.scope | apply AW.label | apply AWL.nil
    | ((first | (apply W.step cx_ok; decide) | apply AW.cond); (simp (disch := omega) only [push_cast, simprocAttr] <;> rfl); all_goals try ((with_reducible intro hI); try first | (cases hI; done) | (simp only [INTS, zL] at hI; try first | (exfalso; omega) | (have hT : True := hI; clear hT hI))))
    | ((first | apply W.ret1 | apply W.end1); (iterate 2 (try (simp (disch := omega) only [push_cast, simprocAttr] <;> rfl))))
  all_goals (show _ = _; rfl)
def sumS (f : Stop → Int) (x y : Int) : List Stop → Int → Int
  | [], n => n
  | t :: l, n => sumS f x y l (if x ≤ t.pos ∧ t.pos < y then n + f t else n)
theorem addS_sum (x y : Int) : ∀ (l : List Stop) (p : Int × Int), addS x y l p = (p.1 + sumS (·.secs.lo) x y l 0, p.2 + sumS (·.secs.hi) x y l 0)
  | [], p => by simp [addS, sumS]
  | t :: l, p => by
    have go : ∀ (f : Stop → Int) (l : List Stop) (n : Int), sumS f x y l n = n + sumS f x y l 0 := by
      intro f l
      induction l with
      | nil => intro n; simp [sumS]
      | cons t l ih =>
        intro n; unfold sumS
        by_cases hc : x ≤ t.pos ∧ t.pos < y
        · simp only [if_pos hc]; rw [ih (n + f t), ih (0 + f t)]; omega
        · simp only [if_neg hc]; exact ih n
    rw [addS, addS_sum x y l, sumS, sumS]
    by_cases hc : x ≤ t.pos ∧ t.pos < y
    · simp only [if_pos hc]; rw [go (fun t => t.secs.lo) l (0 + t.secs.lo), go (fun t => t.secs.hi) l (0 + t.secs.hi)]; ext <;> dsimp only <;> omega
    · simp only [if_neg hc]
theorem sumHi_ok (l : List Stop) (x y : Int) (hl : l.length ≤ 4) (hb : ∀ t ∈ l, 0 ≤ t.secs.lo ∧ t.secs.lo ≤ t.secs.hi ∧ t.secs.hi ≤ 36000) : OKv cx 125 [lStop l, .clo 123 [.iptr [ai x] 0, .iptr [ai y] 0], .clo 126 []] (ai (sumS (·.secs.hi) x y l 0)) := by
  obtain ⟨RES, hRES⟩ : ∃ z, sumS (·.secs.hi) x y l 0 = z := ⟨_, rfl⟩
  rw [hRES]
  refine OKat.of_body (rs := [6]) Try.func125 rfl (by decide +kernel) rfl (by simp [Try.ntmps125]) ?_
  simp only [Try.ntmps125]
  repeat' first
    | apply AW.seq | apply AW.region | apply AW.ret | apply AW.block | apply AW.skip | apply AW.exit | apply AW.scope | apply AW.label | apply AWL.nil
    | ((first | (apply W.step cx_ok; decide) | apply W.store cx_ok | apply AW.cond); (simp (disch := omega) only [push_cast, simprocAttr] <;> rfl); all_goals try ((with_reducible intro hI); try first | (cases hI; done) | (simp only [INTS, zL] at hI; try first | (exfalso; omega) | (have hT : True := hI; clear hT hI))))
    | ((first | apply W.ret1 | apply W.end1); (iterate 2 (try (simp (disch := omega) only [push_cast, simprocAttr] <;> rfl))))
  refine AW.loop (fun n s => ∃ (k : Nat) (m : Int) (rest : List Stop), n = rest.length ∧ (l.drop k = rest) ∧ (sumS (·.secs.hi) x y rest m = RES) ∧ (0 ≤ m ∧ m + 36000 * rest.length ≤ 144000) ∧ 0 ≤ s.nx ∧ s.tm 1 = .clo 123 [.iptr [ai x] 0, .iptr [ai y] 0] ∧ s.tm 2 = .clo 126 [] ∧ s.tm 7 = ai m ∧ s.tm 10 = lStop l ∧ s.tm 11 = ai l.length ∧ s.tm 12 = ai k) (l.length) ⟨0, 0, l, rfl, rfl, hRES, (by omega), ?_, ?_, ?_, ?_, ?_, ?_, ?_⟩ ?_
  iterate 7 (first | (simp (disch := omega) only [push_cast, simprocAttr] <;> first | rfl | omega) | omega)
  rintro n s ⟨k, m, rest, hn, hp0, hp1, hp2, hnl, hS⟩
  rcases rest with _ | ⟨t, rest⟩
  · have hk := drop_nil hp0
    rw [sumS] at hp1
    subst hp1
    repeat' first
      | apply AW.seq | apply AW.region | apply AW.ret | apply AW.block | apply AW.skip | apply AW.exit | apply AW.scope | apply AW.label | apply AWL.nil
      | ((first | (apply W.step cx_ok; decide) | apply W.store cx_ok | apply AW.cond); (simp (disch := omega) only [push_cast, simprocAttr, hS, hk] <;> rfl); all_goals try ((with_reducible intro hI); try first | (cases hI; done) | (simp only [INTS, zL] at hI; try first | (exfalso; omega) | (have hT : True := hI; clear hT hI))))
      | ((first | apply W.ret1 | apply W.end1); (iterate 2 (try (simp (disch := omega) only [push_cast, simprocAttr, hS, hk] <;> rfl))))
    all_goals (show _ = _; rfl)
  · obtain ⟨hk, hg, hd', hl', hm, hx⟩ := drop_cons hp0 eStop []
    have ht := hb t hm
    simp only [List.length_cons] at hp2
    rw [sumS] at hp1
    by_cases hc : x ≤ t.pos ∧ t.pos < y
    · have hc1 := hc.1
      have hc2 := hc.2
      rw [if_pos hc] at hp1
      repeat' first
        | apply AW.seq | apply AW.region | apply AW.ret | apply AW.block | apply AW.skip | apply AW.exit | apply AW.scope | apply AW.label | apply AWL.nil
        | ((first | (apply W.step cx_ok; decide) | apply W.store cx_ok | apply AW.cond); (simp (disch := omega) only [push_cast, simprocAttr, hS, hk, hg, hx, hc1, hc2, zP] <;> rfl); all_goals try ((with_reducible intro hI); try first | (cases hI; done) | (simp only [INTS, zL] at hI; try first | (exfalso; omega) | (have hT : True := hI; clear hT hI))))
        | ((apply W.callv cx_ok; decide); (iterate 2 (simp (disch := omega) only [push_cast, simprocAttr, hS, hk, hg, hx, hc1, hc2, zP] <;> rfl)); (with_reducible first | exact inside_ok t x y | exact secsHi_ok t); try first | rfl | (simp (disch := omega) only [push_cast, simprocAttr, hS, hk, hg, hx, hc1, hc2, zP] <;> rfl))
        | ((first | apply W.ret1 | apply W.end1); (iterate 2 (try (simp (disch := omega) only [push_cast, simprocAttr, hS, hk, hg, hx, hc1, hc2, zP] <;> rfl))))
      all_goals (refine ⟨rest.length, ?_, k + 1, m + t.secs.hi, rest, rfl, hd', hp1, (by omega), ?_, ?_, ?_, ?_, ?_, ?_, ?_⟩; ((simp only [List.length_cons] at *; omega)); all_goals first | (simp (disch := omega) only [push_cast, simprocAttr, hS, hk, hg, hx] <;> first | rfl | omega) | omega)
    · have hcF : (decide (x ≤ t.pos) && decide (t.pos < y)) = false := by
        cases hq : (decide (x ≤ t.pos) && decide (t.pos < y)) with
        | false => rfl
        | true => simp only [Bool.and_eq_true, decide_eq_true_eq] at hq; exact absurd hq hc
      rw [if_neg hc] at hp1
      repeat' first
        | apply AW.seq | apply AW.region | apply AW.ret | apply AW.block | apply AW.skip | apply AW.exit | apply AW.scope | apply AW.label | apply AWL.nil
        | ((first | (apply W.step cx_ok; decide) | apply W.store cx_ok | apply AW.cond); (simp (disch := omega) only [push_cast, simprocAttr, hS, hk, hg, hx, hcF] <;> rfl); all_goals try ((with_reducible intro hI); try first | (cases hI; done) | (simp only [INTS, zL] at hI; try first | (exfalso; omega) | (have hT : True := hI; clear hT hI))))
        | ((apply W.callv cx_ok; decide); (iterate 2 (simp (disch := omega) only [push_cast, simprocAttr, hS, hk, hg, hx, hcF] <;> rfl)); (with_reducible first | exact (hcF ▸ inside_ok t x y) | exact secsHi_ok t); try first | rfl | (simp (disch := omega) only [push_cast, simprocAttr, hS, hk, hg, hx, hcF] <;> rfl))
        | ((first | apply W.ret1 | apply W.end1); (iterate 2 (try (simp (disch := omega) only [push_cast, simprocAttr, hS, hk, hg, hx, hcF] <;> rfl))))
      all_goals (refine ⟨rest.length, ?_, k + 1, m, rest, rfl, hd', hp1, (by omega), ?_, ?_, ?_, ?_, ?_, ?_, ?_⟩; ((simp only [List.length_cons] at *; omega)); all_goals first | (simp (disch := omega) only [push_cast, simprocAttr, hS, hk, hg, hx] <;> first | rfl | omega) | omega)
theorem sumLo_ok (l : List Stop) (x y : Int) (hl : l.length ≤ 4) (hb : ∀ t ∈ l, 0 ≤ t.secs.lo ∧ t.secs.lo ≤ t.secs.hi ∧ t.secs.hi ≤ 36000) : OKv cx 125 [lStop l, .clo 123 [.iptr [ai x] 0, .iptr [ai y] 0], .clo 127 []] (ai (sumS (·.secs.lo) x y l 0)) := by
  obtain ⟨RES, hRES⟩ : ∃ z, sumS (·.secs.lo) x y l 0 = z := ⟨_, rfl⟩
  rw [hRES]
  refine OKat.of_body (rs := [6]) Try.func125 rfl (by decide +kernel) rfl (by simp [Try.ntmps125]) ?_
  simp only [Try.ntmps125]
  repeat' first
    | apply AW.seq | apply AW.region | apply AW.ret | apply AW.block | apply AW.skip | apply AW.exit | apply AW.scope | apply AW.label | apply AWL.nil
    | ((first | (apply W.step cx_ok; decide) | apply W.store cx_ok | apply AW.cond); (simp (disch := omega) only [push_cast, simprocAttr] <;> rfl); all_goals try ((with_reducible intro hI); try first | (cases hI; done) | (simp only [INTS, zL] at hI; try first | (exfalso; omega) | (have hT : True := hI; clear hT hI))))
    | ((first | apply W.ret1 | apply W.end1); (iterate 2 (try (simp (disch := omega) only [push_cast, simprocAttr] <;> rfl))))
  refine AW.loop (fun n s => ∃ (k : Nat) (m : Int) (rest : List Stop), n = rest.length ∧ (l.drop k = rest) ∧ (sumS (·.secs.lo) x y rest m = RES) ∧ (0 ≤ m ∧ m + 36000 * rest.length ≤ 144000) ∧ 0 ≤ s.nx ∧ s.tm 1 = .clo 123 [.iptr [ai x] 0, .iptr [ai y] 0] ∧ s.tm 2 = .clo 127 [] ∧ s.tm 7 = ai m ∧ s.tm 10 = lStop l ∧ s.tm 11 = ai l.length ∧ s.tm 12 = ai k) (l.length) ⟨0, 0, l, rfl, rfl, hRES, (by omega), ?_, ?_, ?_, ?_, ?_, ?_, ?_⟩ ?_
  iterate 7 (first | (simp (disch := omega) only [push_cast, simprocAttr] <;> first | rfl | omega) | omega)
  rintro n s ⟨k, m, rest, hn, hp0, hp1, hp2, hnl, hS⟩
  rcases rest with _ | ⟨t, rest⟩
  · have hk := drop_nil hp0
    rw [sumS] at hp1
    subst hp1
    repeat' first
      | apply AW.seq | apply AW.region | apply AW.ret | apply AW.block | apply AW.skip | apply AW.exit | apply AW.scope | apply AW.label | apply AWL.nil
      | ((first | (apply W.step cx_ok; decide) | apply W.store cx_ok | apply AW.cond); (simp (disch := omega) only [push_cast, simprocAttr, hS, hk] <;> rfl); all_goals try ((with_reducible intro hI); try first | (cases hI; done) | (simp only [INTS, zL] at hI; try first | (exfalso; omega) | (have hT : True := hI; clear hT hI))))
      | ((first | apply W.ret1 | apply W.end1); (iterate 2 (try (simp (disch := omega) only [push_cast, simprocAttr, hS, hk] <;> rfl))))
    all_goals (show _ = _; rfl)
  · obtain ⟨hk, hg, hd', hl', hm, hx⟩ := drop_cons hp0 eStop []
    have ht := hb t hm
    simp only [List.length_cons] at hp2
    rw [sumS] at hp1
    by_cases hc : x ≤ t.pos ∧ t.pos < y
    · have hc1 := hc.1
      have hc2 := hc.2
      rw [if_pos hc] at hp1
      repeat' first
        | apply AW.seq | apply AW.region | apply AW.ret | apply AW.block | apply AW.skip | apply AW.exit | apply AW.scope | apply AW.label | apply AWL.nil
        | ((first | (apply W.step cx_ok; decide) | apply W.store cx_ok | apply AW.cond); (simp (disch := omega) only [push_cast, simprocAttr, hS, hk, hg, hx, hc1, hc2, zP] <;> rfl); all_goals try ((with_reducible intro hI); try first | (cases hI; done) | (simp only [INTS, zL] at hI; try first | (exfalso; omega) | (have hT : True := hI; clear hT hI))))
        | ((apply W.callv cx_ok; decide); (iterate 2 (simp (disch := omega) only [push_cast, simprocAttr, hS, hk, hg, hx, hc1, hc2, zP] <;> rfl)); (with_reducible first | exact inside_ok t x y | exact secsLo_ok t); try first | rfl | (simp (disch := omega) only [push_cast, simprocAttr, hS, hk, hg, hx, hc1, hc2, zP] <;> rfl))
        | ((first | apply W.ret1 | apply W.end1); (iterate 2 (try (simp (disch := omega) only [push_cast, simprocAttr, hS, hk, hg, hx, hc1, hc2, zP] <;> rfl))))
      all_goals (refine ⟨rest.length, ?_, k + 1, m + t.secs.lo, rest, rfl, hd', hp1, (by omega), ?_, ?_, ?_, ?_, ?_, ?_, ?_⟩; ((simp only [List.length_cons] at *; omega)); all_goals first | (simp (disch := omega) only [push_cast, simprocAttr, hS, hk, hg, hx] <;> first | rfl | omega) | omega)
    · have hcF : (decide (x ≤ t.pos) && decide (t.pos < y)) = false := by
        cases hq : (decide (x ≤ t.pos) && decide (t.pos < y)) with
        | false => rfl
        | true => simp only [Bool.and_eq_true, decide_eq_true_eq] at hq; exact absurd hq hc
      rw [if_neg hc] at hp1
      repeat' first
        | apply AW.seq | apply AW.region | apply AW.ret | apply AW.block | apply AW.skip | apply AW.exit | apply AW.scope | apply AW.label | apply AWL.nil
        | ((first | (apply W.step cx_ok; decide) | apply W.store cx_ok | apply AW.cond); (simp (disch := omega) only [push_cast, simprocAttr, hS, hk, hg, hx, hcF] <;> rfl); all_goals try ((with_reducible intro hI); try first | (cases hI; done) | (simp only [INTS, zL] at hI; try first | (exfalso; omega) | (have hT : True := hI; clear hT hI))))
        | ((apply W.callv cx_ok; decide); (iterate 2 (simp (disch := omega) only [push_cast, simprocAttr, hS, hk, hg, hx, hcF] <;> rfl)); (with_reducible first | exact (hcF ▸ inside_ok t x y) | exact secsLo_ok t); try first | rfl | (simp (disch := omega) only [push_cast, simprocAttr, hS, hk, hg, hx, hcF] <;> rfl))
        | ((first | apply W.ret1 | apply W.end1); (iterate 2 (try (simp (disch := omega) only [push_cast, simprocAttr, hS, hk, hg, hx, hcF] <;> rfl))))
      all_goals (refine ⟨rest.length, ?_, k + 1, m, rest, rfl, hd', hp1, (by omega), ?_, ?_, ?_, ?_, ?_, ?_, ?_⟩; ((simp only [List.length_cons] at *; omega)); all_goals first | (simp (disch := omega) only [push_cast, simprocAttr, hS, hk, hg, hx] <;> first | rfl | omega) | omega)

end Go.Proofs.Ks

/-
  A list that is sorted, and cut to its different elements. No conditions.
-/
namespace Go.Proofs.Ks
open Go Go.Proofs

theorem take_snoc {α : Type} {l : List α} {k : Nat} {x : α} {rest : List α} (h : l.drop k = x :: rest) : l.take (k + 1) = l.take k ++ [x] := by
  have h0 : l[k]? = some x := by
    have := congrArg (fun m => m[0]?) h
    simpa using this
  rw [List.take_add_one, h0]; rfl
theorem sorted_ext : ∀ {a b : List Int}, a.Pairwise (· < ·) → b.Pairwise (· < ·) → (∀ x, x ∈ a ↔ x ∈ b) → a = b
  | [], [], _, _, _ => rfl
  | [], y :: b, _, _, h => absurd ((h y).2 (by simp)) (by simp)
  | x :: a, [], _, _, h => absurd ((h x).1 (by simp)) (by simp)
  | x :: a, y :: b, ha, hb, h => by
    rw [List.pairwise_cons] at ha hb
    have hxy : x = y := by
      have h1 := (h x).1 (by simp)
      have h2 := (h y).2 (by simp)
      rw [List.mem_cons] at h1 h2
      rcases h1 with h1 | h1
      · exact h1
      · rcases h2 with h2 | h2
        · exact h2.symm
        · have := hb.1 x h1; have := ha.1 y h2; omega
    subst hxy
    rw [sorted_ext ha.2 hb.2 fun z => ?_]
    have hz := h z
    rw [List.mem_cons, List.mem_cons] at hz
    constructor
    · intro hm
      rcases hz.1 (.inr hm) with e | e
      · have := ha.1 z hm; omega
      · exact e
    · intro hm
      rcases hz.2 (.inr hm) with e | e
      · have := hb.1 z hm; omega
      · exact e
theorem get_b (l : List Int) (i : Nat) (h : i < l.length) : l.toArray[i]! = l[i] := by
  rw [getElem!_pos _ i (by simpa using h)]; simp
theorem compact_mem {l : List Int} {a : Int} : a ∈ Lib.compact l ↔ a ∈ l := by
  unfold Lib.compact Lib.compactUpTo
  simp only [List.mem_map, List.mem_filter, List.mem_range]
  constructor
  · rintro ⟨i, ⟨hi, _⟩, rfl⟩
    rw [get_b l i hi]; exact List.getElem_mem hi
  · intro h
    obtain ⟨i, hi, rfl⟩ := List.getElem_of_mem h
    have key : ∀ (n i : Nat), i < n → (hi : i < l.length) → ∃ j, (j < l.length ∧ Lib.keeps l.toArray j = true) ∧ l.toArray[j]! = l[i] := by
      intro n
      induction n with
      | zero => intro i h; omega
      | succ n ih =>
        intro i hn hi
        by_cases hk : Lib.keeps l.toArray i = true
        · exact ⟨i, ⟨hi, hk⟩, get_b l i hi⟩
        · simp only [Lib.keeps, decide_eq_true_eq, not_or, ne_eq, Decidable.not_not] at hk
          obtain ⟨j, h1, h2⟩ := ih (i - 1) (by omega) (by omega)
          refine ⟨j, h1, h2.trans ?_⟩
          have := hk.2
          rw [get_b l i hi, get_b l (i - 1) (by omega)] at this
          exact this.symm
    exact key (i + 1) i (by omega) hi
theorem compact_sorted {l : List Int} (h : l.Pairwise (· ≤ ·)) : (Lib.compact l).Pairwise (· < ·) := by
  unfold Lib.compact Lib.compactUpTo
  rw [List.pairwise_map]
  have h0 : ((List.range l.length).filter (Lib.keeps l.toArray)).Pairwise (· < ·) := List.Pairwise.filter _ List.pairwise_lt_range
  refine List.Pairwise.imp_of_mem (fun {i j} hi hj hij => ?_) h0
  simp only [List.mem_filter, List.mem_range] at hi hj
  obtain ⟨hj, hk⟩ := hj
  simp only [Lib.keeps, decide_eq_true_eq] at hk
  have hk' := hk.resolve_left (by omega)
  rw [get_b l j hj, get_b l (j - 1) (by omega)] at hk'
  rw [get_b l i hi.1, get_b l j hj]
  have h1 : l[j - 1]'(by omega) ≤ l[j] := List.pairwise_iff_getElem.1 h (j - 1) j (by omega) hj (by omega)
  have h2 : l[i]'(hi.1) ≤ l[j - 1]'(by omega) := by
    by_cases e : i = j - 1
    · subst e; exact Int.le_refl _
    · exact List.pairwise_iff_getElem.1 h i (j - 1) hi.1 (by omega) (by omega)
  omega
theorem sort_sorted (l : List Int) : (l.mergeSort fun x y => decide (x ≤ y)).Pairwise (· ≤ ·) := by
  have h := List.pairwise_mergeSort (le := fun (x y : Int) => decide (x ≤ y)) (fun a b c h1 h2 => by simp only [decide_eq_true_eq] at *; omega) (fun a b => by simp only [Bool.or_eq_true, decide_eq_true_eq]; omega) l
  exact h.imp fun h => by simpa using h
theorem cut_eq {l m : List Int} (hm : m.Pairwise (· < ·)) (h : ∀ a, a ∈ m ↔ a ∈ l) : Lib.compact (l.mergeSort fun x y => decide (x ≤ y)) = m :=
  sorted_ext (compact_sorted (sort_sorted l)) hm fun x => by rw [compact_mem, List.mem_mergeSort, h]
/-- The marked positions in the program's order. -/
def markL (r : Rec) (more : List Int) : List Int := [r.s.zero.lo, r.s.zero.hi + 1, r.s.fin.lo, r.s.fin.hi + 1] ++ (more ++ r.strikes.flatMap fun x => [x.pos.lo, x.pos.hi + 1])
theorem markL_cut (r : Rec) (more : List Int) : Lib.compact ((markL r more).mergeSort fun x y => decide (x ≤ y)) = marksR r more :=
  cut_eq (marksR_sorted r more) fun a => by
    rw [marksR_mem]
    unfold markL
    simp only [List.mem_append, List.mem_cons, List.not_mem_nil, or_false, List.mem_flatMap]
    constructor
    · rintro (h | ⟨x, hx, h⟩ | h)
      · exact .inl h
      · exact .inr (.inr ⟨x, hx, h⟩)
      · exact .inr (.inl h)
    · rintro (h | h | ⟨x, hx, h⟩)
      · exact .inl h
      · exact .inr (.inr h)
      · exact .inr (.inl ⟨x, hx, h⟩)
end Go.Proofs.Ks

/-
  The program's tables of nodes, strikes and rows, told plainly. No conditions.
-/
namespace Go.Proofs.Ks
open Go Go.Pg Go.Proofs

theorem node_strike {r : Rec} {more : List Int} {i : Nat} (h : i < r.strikes.length) : (nodesR r more).getD (3 + i) default = ⟨3, (i : Int)⟩ := by
  unfold nodesR
  rw [List.getD_eq_getElem?_getD, List.append_assoc, List.getElem?_append_right (by rw [nd0_len]; omega), nd0_len, show 3 + i - 3 = i by omega, List.getElem?_append_left (by rw [ndS_len]; exact h)]
  unfold ndS
  rw [List.getElem?_map, List.getElem?_range h]; rfl
theorem nd0_at {r : Rec} {more : List Int} {j : Nat} (h : j < 3) : (nodesR r more).getD j default = ⟨(j : Int), 0⟩ := by
  unfold nodesR
  rw [List.getD_eq_getElem?_getD, List.append_assoc, List.getElem?_append_left (by rw [nd0_len]; exact h)]
  match j, h with
  | 0, _ => rfl
  | 1, _ => rfl
  | 2, _ => rfl
theorem atP_strike {r : Rec} {more : List Int} {i : Nat} (h : i < r.strikes.length) : atP 3 i (nodesR r more) = 3 + (i : Int) := by
  have key : atI 3 i 0 (nodesR r more) = 3 + (i : Int) := by
    rcases atI_case 3 i (nodesR r more) 0 with ⟨_, h2⟩ | ⟨j, h1, h2, h3⟩
    · exfalso
      refine h2 ⟨3, i⟩ ?_ ⟨rfl, rfl⟩
      unfold nodesR ndS
      exact List.mem_append_left _ (List.mem_append_right _ (List.mem_map.2 ⟨i, List.mem_range.2 h, rfl⟩))
    · have hl := nodesR_len r more
      rcases Nat.lt_or_ge j 3 with h4 | h4
      · rw [nd0_at h4] at h3
        injection h3 with h5 h6; omega
      · rcases Nat.lt_or_ge j (3 + r.strikes.length) with h5 | h5
        · have := node_strike (r := r) (more := more) (i := j - 3) (by omega)
          rw [show 3 + (j - 3) = j by omega, h3] at this
          injection this with _ h6
          rw [h2]; omega
        · have := node_mark (r := r) (more := more) (j := j - (3 + r.strikes.length)) (by omega)
          rw [show 3 + r.strikes.length + (j - (3 + r.strikes.length)) = j by omega, h3] at this
          injection this with h6 _
          exact absurd h6 (by decide)
  unfold atP; rw [key, if_neg (by omega)]
theorem atP_in (r : Rec) (more : List Int) : atP 1 0 (nodesR r more) = 1 := rfl
theorem atP_out (r : Rec) (more : List Int) : atP 2 0 (nodesR r more) = 2 := rfl
theorem atP_mark {r : Rec} {more : List Int} {p : Int} (h : p ∈ marksR r more) : atP 4 p (nodesR r more) = atI 4 p 0 (nodesR r more) := by
  unfold atP; rw [if_neg (by have := (at_mark h).1; omega)]
theorem getD_inj {l : List Int} (h : l.Pairwise (· < ·)) {i j : Nat} (hi : i < l.length) (hj : j < l.length) (e : l.getD i 0 = l.getD j 0) : i = j := by
  rw [List.getD_eq_getElem?_getD, List.getD_eq_getElem?_getD, List.getElem?_eq_getElem hi, List.getElem?_eq_getElem hj] at e
  simp only [Option.getD_some] at e
  rcases Nat.lt_trichotomy i j with h1 | h1 | h1
  · have := List.pairwise_iff_getElem.1 h i j hi hj h1; omega
  · exact h1
  · have := List.pairwise_iff_getElem.1 h j i hj hi h1; omega
/-- The j-th marked position is the node 3 + S + j. -/
theorem at_mark_ix {r : Rec} {more : List Int} {j : Nat} {x : Int} (h : j < (marksR r more).length) (hx : (marksR r more).getD j 0 = x) : atP 4 x (nodesR r more) = 3 + (r.strikes.length : Int) + (j : Int) := by
  have hm : x ∈ marksR r more := by
    rw [← hx, List.getD_eq_getElem?_getD, List.getElem?_eq_getElem h]; exact List.getElem_mem h
  rw [atP_mark hm]
  obtain ⟨g1, g2⟩ := at_mark_ge hm
  rcases atI_case 4 x (nodesR r more) 0 with ⟨h1, _⟩ | ⟨i, h1, h2, h3⟩
  · rw [h1] at g1; omega
  · rw [h2] at g1 g2 ⊢
    have hl := nodesR_len r more
    have h4 := node_mark (r := r) (more := more) (j := i - (3 + r.strikes.length)) (by omega)
    rw [show 3 + r.strikes.length + (i - (3 + r.strikes.length)) = i by omega, h3] at h4
    injection h4 with _ h5
    have := getD_inj (marksR_sorted r more) h (by omega) (hx.trans h5)
    omega
/-- The rows' nodes, and the numbers of the strikes. -/
def rwI (k : Nat) : List Int := 1 :: (List.range k).map fun (i : Nat) => 3 + (i : Int)
theorem rwI_succ (k : Nat) : rwI (k + 1) = rwI k ++ [3 + (k : Int)] := by unfold rwI; rw [List.range_succ, List.map_append]; rfl
theorem rwI_len (k : Nat) : (rwI k).length = k + 1 := by simp [rwI]
def idM : Nat → List Strike → List (Key × AV)
  | _, [] => []
  | i, x :: l => (.int x.id, ai (3 + (i : Int))) :: idM (i + 1) l
theorem idM_snoc (x : Strike) : ∀ (l : List Strike) (i : Nat), idM i (l ++ [x]) = idM i l ++ [(.int x.id, ai (3 + ((i + l.length : Nat) : Int)))]
  | [], i => rfl
  | y :: l, i => by
    simp only [List.cons_append, idM, idM_snoc x l (i + 1), List.length_cons]
    rw [show i + 1 + l.length = i + (l.length + 1) by omega]
theorem putM_id (x : Int) (v : AV) : ∀ (l : List Strike) (i : Nat), ¬ x ∈ l.map (·.id) → putM (.int x) v (idM i l) = idM i l ++ [(.int x, v)]
  | [], _, _ => rfl
  | y :: l, i, h => by
    simp only [List.map_cons, List.mem_cons, not_or] at h
    have hs : Key.same (.int x) (.int y.id) = false := by simp [Key.same, h.1]
    simp only [idM, putM, hs, Bool.false_eq_true, if_false, putM_id x v l (i + 1) h.2, List.cons_append]
theorem find_id (x : Int) : ∀ (l : List Strike) (i : Nat), x ∈ l.map (·.id) → findM (.int x) (idM i l) = some (ai (3 + strikeI x i l))
  | [], _, h => by simp at h
  | y :: l, i, h => by
    simp only [idM, findM]
    by_cases hxy : x = y.id
    · have hs : Key.same (.int x) (.int y.id) = true := by simp [Key.same, hxy]
      simp only [hs, if_true]
      unfold strikeI; rw [if_pos hxy.symm]
    · have hs : Key.same (.int x) (.int y.id) = false := by simp [Key.same, hxy]
      simp only [List.map_cons, List.mem_cons] at h
      simp only [hs, Bool.false_eq_true, if_false]
      rw [find_id x l (i + 1) (h.resolve_left hxy)]
      rw [strikeI, if_neg (fun e => hxy e.symm)]
theorem new_id {r : Rec} (hv : r.V) {k : Nat} {x : Strike} {rest : List Strike} (h : r.strikes.drop k = x :: rest) : ¬ x.id ∈ (r.strikes.take k).map (·.id) := by
  have hd := hv.ids
  rw [← List.take_append_drop k r.strikes, h, List.map_append, List.nodup_append] at hd
  intro hm
  exact hd.2.2 _ hm x.id (by simp) rfl
theorem putM_step {r : Rec} (hv : r.V) {k : Nat} {x : Strike} {rest : List Strike} (h : r.strikes.drop k = x :: rest) : putM (.int x.id) (ai (3 + (k : Int))) (idM 0 (r.strikes.take k)) = idM 0 (r.strikes.take (k + 1)) := by
  have hk : k < r.strikes.length := by
    rcases Nat.lt_or_ge k r.strikes.length with h' | h'
    · exact h'
    · rw [List.drop_eq_nil_of_le h'] at h; cases h
  rw [putM_id _ _ _ _ (new_id hv h), take_snoc h, idM_snoc, List.length_take, Nat.min_eq_left (by omega), Nat.zero_add]
/-- The links of the nodes of a row with their spans. -/
def linksN (nd : List Node) : List Int → List Span → List Lk
  | a :: l, x :: m => needleL nd a.toNat x ++ linksN nd l m
  | _, _ => []
def rowT (S : Nat) : List Int := rwI S ++ [2]
def spanT (r : Rec) : List Span := r.s.zero :: (r.strikes.map (·.pos) ++ [r.s.fin])
theorem linksN_strikes (nd : List Node) (fin : Span) : ∀ (l : List Strike) (i : Nat), linksN nd ((List.range' i l.length).map (fun (j : Nat) => 3 + (j : Int)) ++ [2]) (l.map (·.pos) ++ [fin]) = ndL nd i l ++ needleL nd 2 fin
  | [], i => by simp [linksN, ndL]
  | x :: l, i => by
    simp only [List.length_cons, List.range'_succ, List.map_cons, List.cons_append, linksN, ndL, List.append_assoc]
    rw [linksN_strikes nd fin l (i + 1)]
    rw [show (3 + (i : Int)).toNat = 3 + i by omega]
theorem linksN_all (nd : List Node) (r : Rec) : linksN nd (rowT r.strikes.length) (spanT r) = needleL nd 1 r.s.zero ++ (ndL nd 0 r.strikes ++ needleL nd 2 r.s.fin) := by
  unfold rowT spanT rwI
  rw [List.cons_append, linksN, List.range_eq_range', linksN_strikes]
  rfl
theorem rowT_len (S : Nat) : (rowT S).length = S + 2 := by simp [rowT, rwI_len]
theorem spanT_len (r : Rec) : (spanT r).length = r.strikes.length + 2 := by simp [spanT]
theorem rowT_at (S k : Nat) (h : k < S + 2) : (rowT S).getD k 0 = if k = 0 then 1 else if k ≤ S then 2 + (k : Int) else 2 := by
  unfold rowT rwI
  rw [List.getD_eq_getElem?_getD]
  rcases k with _ | k
  · rfl
  · rw [if_neg (by omega), List.cons_append, List.getElem?_cons_succ]
    by_cases hk : k + 1 ≤ S
    · rw [if_pos hk, List.getElem?_append_left (by simp; omega), List.getElem?_map, List.getElem?_range (by omega)]
      simp; omega
    · rw [if_neg hk, List.getElem?_append_right (by simp; omega)]
      simp only [List.length_map, List.length_range]
      rw [show k - S = 0 by omega]; rfl
theorem rowT_nonneg {S : Nat} (a : Int) (h : a ∈ rowT S) : 0 ≤ a := by
  unfold rowT rwI at h
  simp only [List.cons_append, List.mem_cons, List.mem_append, List.mem_map, List.mem_range, List.not_mem_nil, or_false] at h
  rcases h with rfl | ⟨i, _, rfl⟩ | rfl <;> omega
theorem rowK_at {S k : Nat} (h : k ≤ S) : (rowT S).getD (k + 1) 0 = ((rowK S k).a : Int) ∧ (rowT S).getD k 0 = ((rowK S k).b : Int) ∧ (rowK S k).m = 0 := by
  refine ⟨?_, ?_, rfl⟩
  · rw [rowT_at S (k + 1) (by omega), if_neg (by omega)]
    unfold rowK; dsimp only
    by_cases hk : k < S
    · rw [if_pos (by omega), if_pos hk]; omega
    · rw [if_neg (by omega), if_neg hk]; rfl
  · rw [rowT_at S k (by omega)]
    unfold rowK; dsimp only
    by_cases hk : k = 0
    · rw [if_pos hk, if_neg (by omega)]; rfl
    · rw [if_neg hk, if_pos h, if_pos (by omega)]; omega
/-- All links of a record but those of pairs of positions. -/
def linksA (r : Rec) (nd : List Node) : List Lk := bothL 1 r.s.inn ++ (bothL 2 r.s.out ++ (sgL r r.sights ++ (rwL r.strikes.length (r.strikes.length + 1) 0 ++ linksN nd (rowT r.strikes.length) (spanT r))))
theorem linksR_eq (r : Rec) (more : List Int) : linksR r more = linksA r (nodesR r more) ++ pairsL r.s (3 + r.strikes.length) (marksR r more) := by
  unfold linksR linksA
  rw [linksN_all]
  simp only [List.append_assoc]
theorem mem_spanT {r : Rec} {more : List Int} (hv : r.V) {x : Span} (h : x ∈ spanT r) : x.lo ∈ marksR r more ∧ x.hi + 1 ∈ marksR r more ∧ 0 ≤ x.lo ∧ x.lo ≤ x.hi ∧ x.hi ≤ 43199 := by
  have hz := hv.z
  have hf := hv.f
  have hzf := hv.zf
  unfold spanT at h
  rw [List.mem_cons, List.mem_append, List.mem_singleton] at h
  rcases h with rfl | h | rfl
  · exact ⟨marksR_mem.2 (.inl (.inl rfl)), marksR_mem.2 (.inl (.inr (.inl rfl))), by omega, by omega, by omega⟩
  · obtain ⟨y, hy, rfl⟩ := List.mem_map.1 h
    have := hv.strikes y hy
    exact ⟨marksR_mem.2 (.inr (.inl ⟨y, hy, .inl rfl⟩)), marksR_mem.2 (.inr (.inl ⟨y, hy, .inr rfl⟩)), by omega, by omega, by omega⟩
  · exact ⟨marksR_mem.2 (.inl (.inr (.inr (.inl rfl)))), marksR_mem.2 (.inl (.inr (.inr (.inr rfl)))), by omega, by omega, by omega⟩
end Go.Proofs.Ks

namespace Go.Proofs.Ks
open Go Go.Pg Go.Proofs

/-- A consumer of links behind yield: J tells what it has made of the caller's objects. -/
structure Yl (l n0 rb gb pb g m : Nat) (r : Rec) (pl : List Int) (N : List Node) (J : List Lk → (Nat → Option AO) → Prop) : Prop where
  frame : ∀ p H id o, J p H → n0 ≤ id → J p (updH H id o)
  sys : ∀ p H, J p H → SysY H rb gb pb g m r pl N
  y : ∀ p H nx (x : Lk), J p H → n0 ≤ nx → p.length < 20000 → YOK cx l [.agg (eLink x)] H nx (fun b H' nx' => b = true ∧ J (p ++ [x]) H' ∧ nx ≤ nx' ∧ ∀ id, n0 ≤ id → id < nx → H' id = H id)
def dropS : Nat → Code → Code
  | n + 1, .seq _ b => dropS n b
  | _, c => c
def T1_ (r : Rec) (nd : List Node) : List Lk := rwL r.strikes.length (r.strikes.length + 1) 0 ++ linksN nd (rowT r.strikes.length) (spanT r)
noncomputable def tail121 : Code := dropS 14 (Try.f121.body.getD .skip)
/-- Where the links but those of pairs are made, and nothing is yielded yet. -/
structure MidA (l n0 gb pb nx : Nat) (r : Rec) (nd : List Node) (J : List Lk → (Nat → Option AO) → Prop) (s : St) : Prop where
  t0 : s.tm 0 = .v (.func (.yield l) #[] #[])
  t2 : s.tm 2 = .ptr gb 0 0 1
  t3 : s.tm 3 = .ptr pb 0 0 1
  t5 : s.tm 5 = .ptr nx 0 0 1
  t8 : s.tm 8 = .ptr (nx + 1) 0 0 1
  S : Pg.rowAt s.H nx = some { k := 12, es := [eSession r.s], ty := 26 }
  lb : Pg.rowAt s.H (nx + 1) = some { k := 1, es := [[.ref (nx + 4) 0 (linksA r nd).length]], ty := 62 }
  lo : ∃ lw, lw ≤ (linksA r nd).length ∧ Pg.rowAt s.H (nx + 4) = some { k := 3, es := (linksA r nd).map eLink, ty := 66, lo := lw }
  j : J [] s.H
  n : nx + 10 ≤ s.nx

end Go.Proofs.Ks

namespace Go.Proofs.Ks
open Go Go.Pg Go.Proofs

theorem all1_a {l n0 rb gb pb g m : Nat} {r : Rec} (hv : r.V) {more : List Int} (hml : more.length ≤ 8) (hmb : ∀ a ∈ more, 0 ≤ a ∧ a ≤ 43200) {J : List Lk → (Nat → Option AO) → Prop} (hJ : Yl l n0 rb gb pb g m r (marksR r more) (nodesR r more) J)
    (h1 : rb < n0) (h2 : gb < n0) (h3 : pb < n0) (h4 : g < n0) (h5 : m < n0) {H : Nat → Option AO} {nx : Nat} (hnx : n0 ≤ nx) (hJ0 : J [] H) {Q : AV → (Nat → Option AO) → Nat → Prop}
    (hK : ∀ s, MidA l n0 gb pb nx r (nodesR r more) J s → AW cx 232 tail121 (endM cx [] Q) s) :
    OKm cx 121 [.v (.func (.yield l) #[] #[]), .ptr rb 0 0 1, .ptr gb 0 0 1, .ptr pb 0 0 1] H nx Q := by
  have hns := hv.nstrikes
  have hng := hv.nsights
  obtain ⟨i1, i2, i3⟩ := hv.inn
  obtain ⟨o1, o2, o3⟩ := hv.out
  have hin := atP_in r more
  have hout := atP_out r more
  obtain ⟨hrb0, hgb0, hpb0, ⟨ga0, gl0, hgg0⟩, hmm0⟩ := hJ.sys _ _ hJ0
  refine OKm.of_body cx_ok (rs := []) Try.func121 rfl (by decide +kernel) rfl (by simp [Try.ntmps121]) ?_
  simp only [Try.ntmps121]
  refine AW.fresh fun hfr0 => ?_
  have hfr : ∀ id, nx ≤ id → H id = none := hfr0
  repeat' first
    | ((first | (apply W.callr cx_ok; decide) | (apply D.callr cx_ok; decide; decide)); (iterate 2 (simp (disch := (first | omega | (simp only [zE, zF, zD, zC, zA, zB, rwI_len, rowT_len, spanT_len, bothL_len]; omega))) only [push_cast, simprocAttr, takeM, dropM, zK, zA, zB, zN, zQ, zR, zO, zP, zT, zS, zU, leT, zH, pureL, pureA, natNe, zI, zG, TyD.isAgg, zJ, hrb0, hgb0, hpb0, hgg0, hmm0, hfr, hin, hout] <;> rfl)); (exact at_r (nodesR r more) _ _ (by simp (disch := (first | omega | (simp only [zE, zF, zD, zC, zA, zB, rwI_len, rowT_len, spanT_len, bothL_len]; omega))) only [push_cast, simprocAttr, takeM, dropM, zK, zA, zB, zN, zQ, zR, zO, zP, zT, zS, zU, leT, zH, pureL, pureA, natNe, zI, zG, TyD.isAgg, zJ, hrb0, hgb0, hpb0, hgg0, hmm0, hfr, hin, hout] <;> rfl) (by simp (disch := (first | omega | (simp only [zE, zF, zD, zC, zA, zB, rwI_len, rowT_len, spanT_len, bothL_len]; omega))) only [push_cast, simprocAttr, takeM, dropM, zK, zA, zB, zN, zQ, zR, zO, zP, zT, zS, zU, leT, zH, pureL, pureA, natNe, zI, zG, TyD.isAgg, zJ, hrb0, hgb0, hpb0, hgg0, hmm0, hfr, hin, hout] <;> rfl)))
    | apply AW.seq | apply AW.region | apply AW.ret | apply AW.block | apply AW.skip | apply AW.exit | apply AW.scope | apply AW.label | apply AWL.nil | apply D.nil
    | refine AW.draw (id := 1) cx_mixed [5] [] [] 0 (by decide +kernel) ?_
    | refine W.draw cx_mixed (by decide +kernel) ?_
    | ((first | (apply W.step cx_ok; decide) | (apply D.step cx_ok; decide; decide) | apply W.store cx_ok | (apply W.gS; rfl; decide) | (apply D.gS; rfl; decide; decide) | apply AW.cond | apply W.mapUpdate cx_ok); (simp (disch := (first | omega | (simp only [zE, zF, zD, zC, zA, zB, rwI_len, rowT_len, spanT_len, bothL_len]; omega))) only [push_cast, simprocAttr, takeM, dropM, zK, zA, zB, zN, zQ, zR, zO, zP, zT, zS, zU, leT, zH, pureL, pureA, natNe, zI, zG, TyD.isAgg, zJ, hrb0, hgb0, hpb0, hgg0, hmm0, hfr, hin, hout] <;> rfl); all_goals try ((with_reducible intro hI); try first | (cases hI; done) | (simp only [INTS, zL] at hI; try first | (exfalso; omega) | (have hT : True := hI; clear hT hI))))
    | ((first | (apply D.store cx_ok; decide) | (apply D.stept cx_ok; decide; decide) | (apply D.mapUpdate cx_ok; decide) | (apply D.stepm cx_ok; decide; decide)); (simp (disch := (first | omega | (simp only [zE, zF, zD, zC, zA, zB, rwI_len, rowT_len, spanT_len, bothL_len]; omega))) only [push_cast, simprocAttr, takeM, dropM, zK, zA, zB, zN, zQ, zR, zO, zP, zT, zS, zU, leT, zH, pureL, pureA, natNe, zI, zG, TyD.isAgg, zJ, hrb0, hgb0, hpb0, hgg0, hmm0, hfr, hin, hout] <;> rfl); try first | exact .inl rfl | exact .inr (by simp))
    | (refine W.makeMap cx_ok (by simp only [push_cast, simprocAttr] <;> rfl) (by decide) ?_)
    | ((apply D.alloct cx_ok; decide; decide); (simp (disch := (first | omega | (simp only [zE, zF, zD, zC, zA, zB, rwI_len, rowT_len, spanT_len, bothL_len]; omega))) only [push_cast, simprocAttr, takeM, dropM, zK, zA, zB, zN, zQ, zR, zO, zP, zT, zS, zU, leT, zH, pureL, pureA, natNe, zI, zG, TyD.isAgg, zJ, hrb0, hgb0, hpb0, hgg0, hmm0, hfr, hin, hout] <;> rfl); first | exact .inl rfl | exact .inr (by simp))
    | (apply W.append cx_ok; decide; rfl; rfl; rfl; decide; (iterate 3 (simp (disch := (first | omega | (simp only [zE, zF, zD, zC, zA, zB, rwI_len, rowT_len, spanT_len, bothL_len]; omega))) only [push_cast, simprocAttr, takeM, dropM, zK, zA, zB, zN, zQ, zR, zO, zP, zT, zS, zU, leT, zH, pureL, pureA, natNe, zI, zG, TyD.isAgg, zJ, hrb0, hgb0, hpb0, hgg0, hmm0, hfr, hin, hout] <;> rfl)); (first | (focus (simp; done)) | (intro c hc; obtain ⟨x, _, rfl⟩ := List.mem_map.1 hc; rfl)); ((first | rfl | simp (disch := omega) only [push_cast])); ((try dsimp only); (try simp only [zF, zE, zD, zC, zA, zB, rwI_len, rowT_len, spanT_len, bothL_len]); omega); ((try dsimp only); (try simp only [zF, zE, zD, zC, zA, zB, rwI_len, rowT_len, spanT_len, bothL_len]); omega))

  refine W.callm cx_ok (by decide) (f := 122) (caps := [.ptr (nx + 1) 0 0 1]) (by simp (disch := omega) only [push_cast, simprocAttr, natNe, zI, zG, TyD.isAgg, zJ, hrb0, hgb0, hpb0, hgg0, hmm0, hfr, hin, hout] <;> rfl) (between0_m 1 r.s.inn (by decide) ⟨by omega, by omega⟩ (lb := nx + 1) (by dsimp only [St.put, nxA]; omega) (by simp (disch := omega) only [push_cast, simprocAttr, natNe, zI, zG, TyD.isAgg, zJ, hrb0, hgb0, hpb0, hgg0, hmm0, hfr, hin, hout] <;> rfl) (by simp (disch := omega) only [push_cast, simprocAttr, natNe, zI, zG, TyD.isAgg, zJ, hrb0, hgb0, hpb0, hgg0, hmm0, hfr, hin, hout] <;> rfl)) ?_
  rintro _ _ _ ⟨rfl, rfl, rfl⟩
  repeat' first
    | apply AW.seq | apply AW.region | apply AW.ret | apply AW.block | apply AW.skip | apply AW.exit | apply AW.scope | apply AW.label | apply AWL.nil | apply D.nil
    | refine W.draw cx_mixed (by decide +kernel) ?_
    | ((first | (apply W.step cx_ok; decide) | (apply D.step cx_ok; decide; decide) | apply W.store cx_ok | (apply W.gS; rfl; decide) | (apply D.gS; rfl; decide; decide) | apply AW.cond | apply W.mapUpdate cx_ok); (simp (disch := (first | omega | (simp only [zE, zF, zD, zC, zA, zB, rwI_len, rowT_len, spanT_len, bothL_len]; omega))) only [push_cast, simprocAttr, takeM, dropM, zK, zA, zB, zN, zQ, zR, zO, zP, zT, zS, zU, leT, zH, pureL, pureA, natNe, zI, zG, TyD.isAgg, zJ, hrb0, hgb0, hpb0, hgg0, hmm0, hfr, hin, hout] <;> rfl); all_goals try ((with_reducible intro hI); try first | (cases hI; done) | (simp only [INTS, zL] at hI; try first | (exfalso; omega) | (have hT : True := hI; clear hT hI))))
    | (refine W.makeMap cx_ok (by simp only [push_cast, simprocAttr] <;> rfl) (by decide) ?_)
    | (apply W.append cx_ok; decide; rfl; rfl; rfl; decide; (iterate 3 (simp (disch := (first | omega | (simp only [zE, zF, zD, zC, zA, zB, rwI_len, rowT_len, spanT_len, bothL_len]; omega))) only [push_cast, simprocAttr, takeM, dropM, zK, zA, zB, zN, zQ, zR, zO, zP, zT, zS, zU, leT, zH, pureL, pureA, natNe, zI, zG, TyD.isAgg, zJ, hrb0, hgb0, hpb0, hgg0, hmm0, hfr, hin, hout] <;> rfl)); (first | (focus (simp; done)) | (intro c hc; obtain ⟨x, _, rfl⟩ := List.mem_map.1 hc; rfl)); ((first | rfl | simp (disch := omega) only [push_cast])); ((try dsimp only); (try simp only [zF, zE, zD, zC, zA, zB, rwI_len, rowT_len, spanT_len, bothL_len]); omega); ((try dsimp only); (try simp only [zF, zE, zD, zC, zA, zB, rwI_len, rowT_len, spanT_len, bothL_len]); omega))

  refine W.callm cx_ok (by decide) (f := 122) (caps := [.ptr (nx + 1) 0 0 1]) (by simp (disch := omega) only [push_cast, simprocAttr, natNe, zI, zG, TyD.isAgg, zJ, hrb0, hgb0, hpb0, hgg0, hmm0, hfr, hin, hout] <;> rfl) (between_m 2 r.s.out (by decide) ⟨by omega, by omega⟩ (bothL 1 r.s.inn) (lb := nx + 1) (lo := nx + 4) (lw := 2) (by simp [bothL_len]) (by omega) (by dsimp only [St.put, nxA]; omega) (by dsimp only [St.put, nxA]; omega) (by simp (disch := omega) only [push_cast, simprocAttr, natNe, zI, zG, TyD.isAgg, zJ, hrb0, hgb0, hpb0, hgg0, hmm0, hfr, hin, hout] <;> rfl) (by simp (disch := omega) only [push_cast, simprocAttr, natNe, zI, zG, TyD.isAgg, zJ, hrb0, hgb0, hpb0, hgg0, hmm0, hfr, hin, hout] <;> rfl) (by simp (disch := omega) only [push_cast, simprocAttr, natNe, zI, zG, TyD.isAgg, zJ, hrb0, hgb0, hpb0, hgg0, hmm0, hfr, hin, hout] <;> rfl) (Nat.le_refl _)) ?_
  rintro _ _ _ ⟨rfl, rfl, rfl⟩
  repeat' first
    | apply AW.seq | apply AW.region | apply AW.ret | apply AW.block | apply AW.skip | apply AW.exit | apply AW.scope | apply AW.label | apply AWL.nil | apply D.nil
    | refine W.draw cx_mixed (by decide +kernel) ?_
    | ((first | (apply W.step cx_ok; decide) | (apply D.step cx_ok; decide; decide) | apply W.store cx_ok | (apply W.gS; rfl; decide) | (apply D.gS; rfl; decide; decide) | apply AW.cond | apply W.mapUpdate cx_ok); (simp (disch := (first | omega | (simp only [zE, zF, zD, zC, zA, zB, rwI_len, rowT_len, spanT_len, bothL_len]; omega))) only [push_cast, simprocAttr, takeM, dropM, zK, zA, zB, zN, zQ, zR, zO, zP, zT, zS, zU, leT, zH, pureL, pureA, natNe, zI, zG, TyD.isAgg, zJ, hrb0, hgb0, hpb0, hgg0, hmm0, hfr, hin, hout] <;> rfl); all_goals try ((with_reducible intro hI); try first | (cases hI; done) | (simp only [INTS, zL] at hI; try first | (exfalso; omega) | (have hT : True := hI; clear hT hI))))
    | (refine W.makeMap cx_ok (by simp only [push_cast, simprocAttr] <;> rfl) (by decide) ?_)
    | (apply W.append cx_ok; decide; rfl; rfl; rfl; decide; (iterate 3 (simp (disch := (first | omega | (simp only [zE, zF, zD, zC, zA, zB, rwI_len, rowT_len, spanT_len, bothL_len]; omega))) only [push_cast, simprocAttr, takeM, dropM, zK, zA, zB, zN, zQ, zR, zO, zP, zT, zS, zU, leT, zH, pureL, pureA, natNe, zI, zG, TyD.isAgg, zJ, hrb0, hgb0, hpb0, hgg0, hmm0, hfr, hin, hout] <;> rfl)); (first | (focus (simp; done)) | (intro c hc; obtain ⟨x, _, rfl⟩ := List.mem_map.1 hc; rfl)); ((first | rfl | simp (disch := omega) only [push_cast])); ((try dsimp only); (try simp only [zF, zE, zD, zC, zA, zB, rwI_len, rowT_len, spanT_len, bothL_len]); omega); ((try dsimp only); (try simp only [zF, zE, zD, zC, zA, zB, rwI_len, rowT_len, spanT_len, bothL_len]); omega))

  refine AW.loop (fun n s => ∃ (k lr ls : Nat) (rest : List Strike), n = rest.length ∧ (r.strikes.drop k = rest) ∧ (lr ≤ k + 1) ∧ (ls ≤ k + 1) ∧ (k ≤ r.strikes.length) ∧ (J [] s.H) ∧ nx + 10 ≤ s.nx ∧ s.tm 0 = .v (.func (.yield l) #[] #[]) ∧ s.tm 1 = .ptr rb 0 0 1 ∧ s.tm 2 = .ptr gb 0 0 1 ∧ s.tm 3 = .ptr pb 0 0 1 ∧ s.tm 5 = .ptr nx 0 0 1 ∧ s.tm 8 = .ptr (nx + 1) 0 0 1 ∧ s.tm 9 = .clo 122 [.ptr (nx + 1) 0 0 1] ∧ s.tm 10 = .map (nx + 7) ∧ s.tm 7 = ai 2 ∧ s.tm 11 = .ref (nx + 8) 0 (k + 1) ∧ s.tm 12 = .ref (nx + 9) 0 (k + 1) ∧ s.tm 57 = lStrike r.strikes ∧ s.tm 58 = ai r.strikes.length ∧ s.tm 59 = ai k ∧ Pg.rowAt s.H nx = some { k := 12, es := [eSession r.s], ty := 26 } ∧ Pg.rowAt s.H (nx + 1) = some { k := 1, es := [[.ref (nx + 4) 0 (bothL 1 r.s.inn ++ bothL 2 r.s.out).length]], ty := 62 } ∧ Pg.rowAt s.H (nx + 4) = some { k := 3, es := (bothL 1 r.s.inn ++ bothL 2 r.s.out).map eLink, ty := 66, lo := 4 } ∧ Pg.rowAt s.H (nx + 8) = some { k := 1, es := (rwI k).map eInt, ty := 3, lo := lr } ∧ Pg.rowAt s.H (nx + 9) = some { k := 2, es := (r.s.zero :: (r.strikes.take k).map (·.pos)).map eSpan, ty := 23, lo := ls } ∧ s.H (nx + 7) = some (.mp (.map .int) 0 (idM 0 (r.strikes.take k)))) (r.strikes.length) ⟨0, _, _, r.strikes, rfl, rfl, (Nat.zero_le _), (Nat.zero_le _), (Nat.zero_le _), (by (try simp (disch := omega) only [push_cast, simprocAttr, natNe, zI, zG, TyD.isAgg, zJ, hrb0, hgb0, hpb0, hgg0, hmm0, hfr, hin, hout]); (repeat (refine hJ.frame _ _ _ _ ?_ (by omega))); exact hJ0), ?_, ?_, ?_, ?_, ?_, ?_, ?_, ?_, ?_, ?_, ?_, ?_, ?_, ?_, ?_, ?_, ?_, ?_, ?_, ?_, ?_⟩ ?_
  iterate 21 (first | (simp (disch := omega) only [push_cast, simprocAttr, natNe, zI, zG, TyD.isAgg, zJ, hrb0, hgb0, hpb0, hgg0, hmm0, hfr, hin, hout, bothL_len, zY, zE] <;> first | rfl | omega) | omega)
  rintro n s ⟨k, lr, ls, rest, hn, hp0, hp1, hp2, hp3, hp4, hnl, hS⟩
  refine AW.fresh fun hfr => ?_
  obtain ⟨hrb, hgb, hpb, ⟨ga, gl, hgg⟩, hmm⟩ := hJ.sys _ _ hp4
  rcases rest with _ | ⟨x, rest⟩
  rotate_left
  · obtain ⟨hk, hg, hd', hl', hm, hx⟩ := drop_cons hp0 eStrike []
    have hat : atP 3 (k : Int) (nodesR r more) = 3 + (k : Int) := atP_strike (by omega)
    have hput := putM_step hv hp0
    have htk := take_snoc hp0
    have hmin : min k r.strikes.length = k := Nat.min_eq_left hp3
    repeat' first
      | ((first | (apply W.callr cx_ok; decide) | (apply D.callr cx_ok; decide; decide)); (iterate 2 (simp (disch := (first | omega | (simp only [zE, zF, zD, zC, zA, zB, rwI_len, rowT_len, spanT_len, bothL_len]; omega))) only [push_cast, simprocAttr, takeM, dropM, zK, zA, zB, zN, zQ, zR, zO, zP, zT, zS, zU, leT, zH, pureL, pureA, natNe, zI, zG, TyD.isAgg, zJ, hS, hrb, hgb, hpb, hgg, hmm, hfr, hk, hg, hx, hat, hput, hmin, rwI_len] <;> rfl)); (exact at_r (nodesR r more) _ _ (by simp (disch := (first | omega | (simp only [zE, zF, zD, zC, zA, zB, rwI_len, rowT_len, spanT_len, bothL_len]; omega))) only [push_cast, simprocAttr, takeM, dropM, zK, zA, zB, zN, zQ, zR, zO, zP, zT, zS, zU, leT, zH, pureL, pureA, natNe, zI, zG, TyD.isAgg, zJ, hS, hrb, hgb, hpb, hgg, hmm, hfr, hk, hg, hx, hat, hput, hmin, rwI_len] <;> rfl) (by simp (disch := (first | omega | (simp only [zE, zF, zD, zC, zA, zB, rwI_len, rowT_len, spanT_len, bothL_len]; omega))) only [push_cast, simprocAttr, takeM, dropM, zK, zA, zB, zN, zQ, zR, zO, zP, zT, zS, zU, leT, zH, pureL, pureA, natNe, zI, zG, TyD.isAgg, zJ, hS, hrb, hgb, hpb, hgg, hmm, hfr, hk, hg, hx, hat, hput, hmin, rwI_len] <;> rfl)))
      | ((apply D.buildL cx_ok; decide; decide); (iterate 3 (simp (disch := (first | omega | (simp only [zE, zF, zD, zC, zA, zB, rwI_len, rowT_len, spanT_len, bothL_len]; omega))) only [push_cast, simprocAttr, takeM, dropM, zK, zA, zB, zN, zQ, zR, zO, zP, zT, zS, zU, leT, zH, pureL, pureA, natNe, zI, zG, TyD.isAgg, zJ, hS, hrb, hgb, hpb, hgg, hmm, hfr, hk, hg, hx, hat, hput, hmin, rwI_len, pur, pureA, pureL, ite_true, zP] <;> rfl)); exact Nat.zero_le _)
      | apply AW.seq | apply AW.region | apply AW.ret | apply AW.block | apply AW.skip | apply AW.exit | apply AW.scope | apply AW.label | apply AWL.nil | apply D.nil
      | refine AW.draw (id := 14) cx_mixed [3, 8, 9, 10] [4, 5, 6, 7] [nx + 8, nx + 9] 11 (by decide +kernel) ?_
      | refine W.draw cx_mixed (by decide +kernel) ?_
      | ((first | (apply W.step cx_ok; decide) | (apply D.step cx_ok; decide; decide) | apply W.store cx_ok | (apply W.gS; rfl; decide) | (apply D.gS; rfl; decide; decide) | apply AW.cond | apply W.mapUpdate cx_ok); (simp (disch := (first | omega | (simp only [zE, zF, zD, zC, zA, zB, rwI_len, rowT_len, spanT_len, bothL_len]; omega))) only [push_cast, simprocAttr, takeM, dropM, zK, zA, zB, zN, zQ, zR, zO, zP, zT, zS, zU, leT, zH, pureL, pureA, natNe, zI, zG, TyD.isAgg, zJ, hS, hrb, hgb, hpb, hgg, hmm, hfr, hk, hg, hx, hat, hput, hmin, rwI_len] <;> rfl); all_goals try ((with_reducible intro hI); try first | (cases hI; done) | (simp only [INTS, zL] at hI; try first | (exfalso; omega) | (have hT : True := hI; clear hT hI))))
      | ((first | (apply D.store cx_ok; decide) | (apply D.stept cx_ok; decide; decide) | (apply D.mapUpdate cx_ok; decide) | (apply D.stepm cx_ok; decide; decide)); (simp (disch := (first | omega | (simp only [zE, zF, zD, zC, zA, zB, rwI_len, rowT_len, spanT_len, bothL_len]; omega))) only [push_cast, simprocAttr, takeM, dropM, zK, zA, zB, zN, zQ, zR, zO, zP, zT, zS, zU, leT, zH, pureL, pureA, natNe, zI, zG, TyD.isAgg, zJ, hS, hrb, hgb, hpb, hgg, hmm, hfr, hk, hg, hx, hat, hput, hmin, rwI_len] <;> rfl); try first | exact .inl rfl | exact .inr (by simp))
      | (refine W.makeMap cx_ok (by simp only [push_cast, simprocAttr] <;> rfl) (by decide) ?_)
      | ((apply D.alloc cx_ok; decide; decide); (simp (disch := (first | omega | (simp only [zE, zF, zD, zC, zA, zB, rwI_len, rowT_len, spanT_len, bothL_len]; omega))) only [push_cast, simprocAttr, takeM, dropM, zK, zA, zB, zN, zQ, zR, zO, zP, zT, zS, zU, leT, zH, pureL, pureA, natNe, zI, zG, TyD.isAgg, zJ, hS, hrb, hgb, hpb, hgg, hmm, hfr, hk, hg, hx, hat, hput, hmin, rwI_len] <;> rfl); (simp (disch := (first | omega | (simp only [zE, zF, zD, zC, zA, zB, rwI_len, rowT_len, spanT_len, bothL_len]; omega))) only [push_cast, simprocAttr, takeM, dropM, zK, zA, zB, zN, zQ, zR, zO, zP, zT, zS, zU, leT, zH, pureL, pureA, natNe, zI, zG, TyD.isAgg, zJ, hS, hrb, hgb, hpb, hgg, hmm, hfr, hk, hg, hx, hat, hput, hmin, rwI_len, updH_at, zJ]); (simp (disch := (first | omega | (simp only [zE, zF, zD, zC, zA, zB, rwI_len, rowT_len, spanT_len, bothL_len]; omega))) only [push_cast, simprocAttr, takeM, dropM, zK, zA, zB, zN, zQ, zR, zO, zP, zT, zS, zU, leT, zH, pureL, pureA, natNe, zI, zG, TyD.isAgg, zJ, hS, hrb, hgb, hpb, hgg, hmm, hfr, hk, hg, hx, hat, hput, hmin, rwI_len] <;> omega))
      | ((apply D.alloct cx_ok; decide; decide); (simp (disch := (first | omega | (simp only [zE, zF, zD, zC, zA, zB, rwI_len, rowT_len, spanT_len, bothL_len]; omega))) only [push_cast, simprocAttr, takeM, dropM, zK, zA, zB, zN, zQ, zR, zO, zP, zT, zS, zU, leT, zH, pureL, pureA, natNe, zI, zG, TyD.isAgg, zJ, hS, hrb, hgb, hpb, hgg, hmm, hfr, hk, hg, hx, hat, hput, hmin, rwI_len] <;> rfl); first | exact .inl rfl | exact .inr (by simp))
      | (apply W.append cx_ok; decide; rfl; rfl; rfl; decide; (iterate 3 (simp (disch := (first | omega | (simp only [zE, zF, zD, zC, zA, zB, rwI_len, rowT_len, spanT_len, bothL_len]; omega))) only [push_cast, simprocAttr, takeM, dropM, zK, zA, zB, zN, zQ, zR, zO, zP, zT, zS, zU, leT, zH, pureL, pureA, natNe, zI, zG, TyD.isAgg, zJ, hS, hrb, hgb, hpb, hgg, hmm, hfr, hk, hg, hx, hat, hput, hmin, rwI_len] <;> rfl)); (first | (focus (simp; done)) | (intro c hc; obtain ⟨x, _, rfl⟩ := List.mem_map.1 hc; rfl)); ((first | rfl | simp (disch := omega) only [push_cast])); ((try dsimp only); (try simp only [zF, zE, zD, zC, zA, zB, rwI_len, rowT_len, spanT_len, bothL_len]); omega); ((try dsimp only); (try simp only [zF, zE, zD, zC, zA, zB, rwI_len, rowT_len, spanT_len, bothL_len]); omega))
      | (apply D.append cx_ok; decide; decide; rfl; rfl; rfl; decide; (iterate 3 (simp (disch := (first | omega | (simp only [zE, zF, zD, zC, zA, zB, rwI_len, rowT_len, spanT_len, bothL_len]; omega))) only [push_cast, simprocAttr, takeM, dropM, zK, zA, zB, zN, zQ, zR, zO, zP, zT, zS, zU, leT, zH, pureL, pureA, natNe, zI, zG, TyD.isAgg, zJ, hS, hrb, hgb, hpb, hgg, hmm, hfr, hk, hg, hx, hat, hput, hmin, rwI_len] <;> rfl)); (first | (focus (simp; done)) | (intro c hc; obtain ⟨x, _, rfl⟩ := List.mem_map.1 hc; rfl)); ((first | rfl | (simp (disch := omega) only [push_cast]; done))); ((try dsimp only); (try simp only [zF, zE, zD, zC, zA, zB, rwI_len, rowT_len, spanT_len, bothL_len]); omega); ((try dsimp only); (try simp only [zF, zE, zD, zC, zA, zB, rwI_len, rowT_len, spanT_len, bothL_len]); omega); first | exact .inl rfl | exact .inr (by simp))

    all_goals (refine ⟨rest.length, ?_, k + 1, (k + 1 + 1), (k + 1 + 1), rest, rfl, hd', (Nat.le_refl _), (Nat.le_refl _), (by omega), (by (try simp (disch := omega) only [push_cast, simprocAttr, natNe, zI, zG, TyD.isAgg, zJ, hS]); (repeat (refine hJ.frame _ _ _ _ ?_ (by omega))); exact hp4), ?_, ?_, ?_, ?_, ?_, ?_, ?_, ?_, ?_, ?_, ?_, ?_, ?_, ?_, ?_, ?_, ?_, ?_, ?_, ?_, ?_⟩; ((simp only [List.length_cons] at *; omega)); all_goals first | (simp (disch := omega) only [push_cast, simprocAttr, hS, natNe, zI, zG, TyD.isAgg, zJ, hrb, hgb, hpb, hgg, hmm, hk, hg, hx, hat, hput, hmin, htk, rwI_succ, rwI_len, zA, zY, zX, zW, zE, zD, zC, List.append_assoc, yB, yA, isEmpty_map, zV, zM, yC] <;> first | rfl | omega) | omega)
  have hk := drop_nil hp0
  have hkS : k = r.strikes.length := by have := List.drop_eq_nil_iff.1 hp0; omega
  subst hkS
  rw [List.take_length] at hS
  repeat' first
    | ((first | (apply W.callr cx_ok; decide) | (apply D.callr cx_ok; decide; decide)); (iterate 2 (simp (disch := (first | omega | (simp only [zE, zF, zD, zC, zA, zB, rwI_len, rowT_len, spanT_len, bothL_len]; omega))) only [push_cast, simprocAttr, takeM, dropM, zK, zA, zB, zN, zQ, zR, zO, zP, zT, zS, zU, leT, zH, pureL, pureA, natNe, zI, zG, TyD.isAgg, zJ, hS, hrb, hgb, hpb, hgg, hmm, hfr, hk, rwI_len] <;> rfl)); (exact at_r (nodesR r more) _ _ (by simp (disch := (first | omega | (simp only [zE, zF, zD, zC, zA, zB, rwI_len, rowT_len, spanT_len, bothL_len]; omega))) only [push_cast, simprocAttr, takeM, dropM, zK, zA, zB, zN, zQ, zR, zO, zP, zT, zS, zU, leT, zH, pureL, pureA, natNe, zI, zG, TyD.isAgg, zJ, hS, hrb, hgb, hpb, hgg, hmm, hfr, hk, rwI_len] <;> rfl) (by simp (disch := (first | omega | (simp only [zE, zF, zD, zC, zA, zB, rwI_len, rowT_len, spanT_len, bothL_len]; omega))) only [push_cast, simprocAttr, takeM, dropM, zK, zA, zB, zN, zQ, zR, zO, zP, zT, zS, zU, leT, zH, pureL, pureA, natNe, zI, zG, TyD.isAgg, zJ, hS, hrb, hgb, hpb, hgg, hmm, hfr, hk, rwI_len] <;> rfl)))
    | ((apply D.buildL cx_ok; decide; decide); (iterate 3 (simp (disch := (first | omega | (simp only [zE, zF, zD, zC, zA, zB, rwI_len, rowT_len, spanT_len, bothL_len]; omega))) only [push_cast, simprocAttr, takeM, dropM, zK, zA, zB, zN, zQ, zR, zO, zP, zT, zS, zU, leT, zH, pureL, pureA, natNe, zI, zG, TyD.isAgg, zJ, hS, hrb, hgb, hpb, hgg, hmm, hfr, hk, rwI_len, pur, pureA, pureL, ite_true, zP] <;> rfl)); exact Nat.zero_le _)
    | apply AW.seq | apply AW.region | apply AW.ret | apply AW.block | apply AW.skip | apply AW.exit | apply AW.scope | apply AW.label | apply AWL.nil | apply D.nil
    | refine AW.draw (id := 16) cx_mixed [3, 8, 9, 10] [4, 5, 6, 7] [nx + 8, nx + 9] 11 (by decide +kernel) ?_
    | refine W.draw cx_mixed (by decide +kernel) ?_
    | ((first | (apply W.step cx_ok; decide) | (apply D.step cx_ok; decide; decide) | apply W.store cx_ok | (apply W.gS; rfl; decide) | (apply D.gS; rfl; decide; decide) | apply AW.cond | apply W.mapUpdate cx_ok); (simp (disch := (first | omega | (simp only [zE, zF, zD, zC, zA, zB, rwI_len, rowT_len, spanT_len, bothL_len]; omega))) only [push_cast, simprocAttr, takeM, dropM, zK, zA, zB, zN, zQ, zR, zO, zP, zT, zS, zU, leT, zH, pureL, pureA, natNe, zI, zG, TyD.isAgg, zJ, hS, hrb, hgb, hpb, hgg, hmm, hfr, hk, rwI_len] <;> rfl); all_goals try ((with_reducible intro hI); try first | (cases hI; done) | (simp only [INTS, zL] at hI; try first | (exfalso; omega) | (have hT : True := hI; clear hT hI))))
    | ((first | (apply D.store cx_ok; decide) | (apply D.stept cx_ok; decide; decide) | (apply D.mapUpdate cx_ok; decide) | (apply D.stepm cx_ok; decide; decide)); (simp (disch := (first | omega | (simp only [zE, zF, zD, zC, zA, zB, rwI_len, rowT_len, spanT_len, bothL_len]; omega))) only [push_cast, simprocAttr, takeM, dropM, zK, zA, zB, zN, zQ, zR, zO, zP, zT, zS, zU, leT, zH, pureL, pureA, natNe, zI, zG, TyD.isAgg, zJ, hS, hrb, hgb, hpb, hgg, hmm, hfr, hk, rwI_len] <;> rfl); try first | exact .inl rfl | exact .inr (by simp))
    | (refine W.makeMap cx_ok (by simp only [push_cast, simprocAttr] <;> rfl) (by decide) ?_)
    | ((apply D.alloc cx_ok; decide; decide); (simp (disch := (first | omega | (simp only [zE, zF, zD, zC, zA, zB, rwI_len, rowT_len, spanT_len, bothL_len]; omega))) only [push_cast, simprocAttr, takeM, dropM, zK, zA, zB, zN, zQ, zR, zO, zP, zT, zS, zU, leT, zH, pureL, pureA, natNe, zI, zG, TyD.isAgg, zJ, hS, hrb, hgb, hpb, hgg, hmm, hfr, hk, rwI_len] <;> rfl); (simp (disch := (first | omega | (simp only [zE, zF, zD, zC, zA, zB, rwI_len, rowT_len, spanT_len, bothL_len]; omega))) only [push_cast, simprocAttr, takeM, dropM, zK, zA, zB, zN, zQ, zR, zO, zP, zT, zS, zU, leT, zH, pureL, pureA, natNe, zI, zG, TyD.isAgg, zJ, hS, hrb, hgb, hpb, hgg, hmm, hfr, hk, rwI_len, updH_at, zJ]); (simp (disch := (first | omega | (simp only [zE, zF, zD, zC, zA, zB, rwI_len, rowT_len, spanT_len, bothL_len]; omega))) only [push_cast, simprocAttr, takeM, dropM, zK, zA, zB, zN, zQ, zR, zO, zP, zT, zS, zU, leT, zH, pureL, pureA, natNe, zI, zG, TyD.isAgg, zJ, hS, hrb, hgb, hpb, hgg, hmm, hfr, hk, rwI_len] <;> omega))
    | ((apply D.alloct cx_ok; decide; decide); (simp (disch := (first | omega | (simp only [zE, zF, zD, zC, zA, zB, rwI_len, rowT_len, spanT_len, bothL_len]; omega))) only [push_cast, simprocAttr, takeM, dropM, zK, zA, zB, zN, zQ, zR, zO, zP, zT, zS, zU, leT, zH, pureL, pureA, natNe, zI, zG, TyD.isAgg, zJ, hS, hrb, hgb, hpb, hgg, hmm, hfr, hk, rwI_len] <;> rfl); first | exact .inl rfl | exact .inr (by simp))
    | (apply W.append cx_ok; decide; rfl; rfl; rfl; decide; (iterate 3 (simp (disch := (first | omega | (simp only [zE, zF, zD, zC, zA, zB, rwI_len, rowT_len, spanT_len, bothL_len]; omega))) only [push_cast, simprocAttr, takeM, dropM, zK, zA, zB, zN, zQ, zR, zO, zP, zT, zS, zU, leT, zH, pureL, pureA, natNe, zI, zG, TyD.isAgg, zJ, hS, hrb, hgb, hpb, hgg, hmm, hfr, hk, rwI_len] <;> rfl)); (first | (focus (simp; done)) | (intro c hc; obtain ⟨x, _, rfl⟩ := List.mem_map.1 hc; rfl)); ((first | rfl | simp (disch := omega) only [push_cast])); ((try dsimp only); (try simp only [zF, zE, zD, zC, zA, zB, rwI_len, rowT_len, spanT_len, bothL_len]); omega); ((try dsimp only); (try simp only [zF, zE, zD, zC, zA, zB, rwI_len, rowT_len, spanT_len, bothL_len]); omega))
    | (apply D.append cx_ok; decide; decide; rfl; rfl; rfl; decide; (iterate 3 (simp (disch := (first | omega | (simp only [zE, zF, zD, zC, zA, zB, rwI_len, rowT_len, spanT_len, bothL_len]; omega))) only [push_cast, simprocAttr, takeM, dropM, zK, zA, zB, zN, zQ, zR, zO, zP, zT, zS, zU, leT, zH, pureL, pureA, natNe, zI, zG, TyD.isAgg, zJ, hS, hrb, hgb, hpb, hgg, hmm, hfr, hk, rwI_len] <;> rfl)); (first | (focus (simp; done)) | (intro c hc; obtain ⟨x, _, rfl⟩ := List.mem_map.1 hc; rfl)); ((first | rfl | (simp (disch := omega) only [push_cast]; done))); ((try dsimp only); (try simp only [zF, zE, zD, zC, zA, zB, rwI_len, rowT_len, spanT_len, bothL_len]); omega); ((try dsimp only); (try simp only [zF, zE, zD, zC, zA, zB, rwI_len, rowT_len, spanT_len, bothL_len]); omega); first | exact .inl rfl | exact .inr (by simp))

  refine AW.loop (fun n s => ∃ (k lw : Nat) (M : List Lk) (rest : List Sight), n = rest.length ∧ (r.sights.drop k = rest) ∧ (M ++ (sgL r rest ++ T1_ r (nodesR r more)) = linksA r (nodesR r more)) ∧ (lw ≤ M.length) ∧ (M.length ≤ 4 + 2 * k) ∧ (k ≤ r.sights.length) ∧ (J [] s.H) ∧ nx + 10 ≤ s.nx ∧ s.tm 0 = .v (.func (.yield l) #[] #[]) ∧ s.tm 1 = .ptr rb 0 0 1 ∧ s.tm 2 = .ptr gb 0 0 1 ∧ s.tm 3 = .ptr pb 0 0 1 ∧ s.tm 5 = .ptr nx 0 0 1 ∧ s.tm 8 = .ptr (nx + 1) 0 0 1 ∧ s.tm 9 = .clo 122 [.ptr (nx + 1) 0 0 1] ∧ s.tm 10 = .map (nx + 7) ∧ s.tm 11 = .ref (nx + 8) 0 (r.strikes.length + 2) ∧ s.tm 12 = .ref (nx + 9) 0 (r.strikes.length + 2) ∧ s.tm 91 = lSight r.sights ∧ s.tm 92 = ai r.sights.length ∧ s.tm 93 = ai k ∧ Pg.rowAt s.H nx = some { k := 12, es := [eSession r.s], ty := 26 } ∧ Pg.rowAt s.H (nx + 1) = some { k := 1, es := [[.ref (nx + 4) 0 (M).length]], ty := 62 } ∧ Pg.rowAt s.H (nx + 4) = some { k := 3, es := (M).map eLink, ty := 66, lo := lw } ∧ Pg.rowAt s.H (nx + 8) = some { k := 1, es := (rowT r.strikes.length).map eInt, ty := 3, lo := r.strikes.length + 2 } ∧ Pg.rowAt s.H (nx + 9) = some { k := 2, es := (spanT r).map eSpan, ty := 23, lo := r.strikes.length + 2 } ∧ s.H (nx + 7) = some (.mp (.map .int) 0 (idM 0 (r.strikes)))) (r.sights.length) ⟨0, 4, (bothL 1 r.s.inn ++ bothL 2 r.s.out), r.sights, rfl, rfl, (by simp only [T1_, linksA, List.append_assoc]), (Nat.le_refl _), (Nat.le_refl _), (Nat.zero_le _), (by (try simp (disch := omega) only [push_cast, simprocAttr, natNe, zI, zG, TyD.isAgg, zJ, hS]); (repeat (refine hJ.frame _ _ _ _ ?_ (by omega))); exact hp4), ?_, ?_, ?_, ?_, ?_, ?_, ?_, ?_, ?_, ?_, ?_, ?_, ?_, ?_, ?_, ?_, ?_, ?_, ?_, ?_⟩ ?_
  iterate 20 (first | (simp (disch := omega) only [push_cast, simprocAttr, natNe, zI, zG, TyD.isAgg, zJ, hrb, hgb, hpb, hgg, hmm, hS, hk, rwI_len, rowT, spanT, zY, zX, zW, zE, zD, zC, List.append_assoc, yB, yA, isEmpty_map, zV, zM, yC, bothL_len] <;> first | rfl | omega) | omega)
  rintro n1 s1 ⟨k1, lw1, M1, rest1, hn1, hp01, hp11, hp21, hp31, hp41, hp51, hnl1, hS1⟩
  refine AW.fresh fun hfr1 => ?_
  obtain ⟨hrb1, hgb1, hpb1, ⟨ga1, gl1, hgg1⟩, hmm1⟩ := hJ.sys _ _ hp51
  rcases rest1 with _ | ⟨x, rest1⟩
  rotate_left
  · obtain ⟨hk1, hg1, hd1, hl1, hm1, hx1⟩ := drop_cons hp01 eSight []
    obtain ⟨b1, b2, b3, b4⟩ := hv.sights x hm1
    have hfi := find_id x.strike r.strikes 0 b4
    have hsi : 0 ≤ 3 + strikeI x.strike 0 r.strikes := by rcases strikeI_case x.strike r.strikes 0 with ⟨h, _⟩ | ⟨i, _, h, _⟩; exact absurd b4 h; rw [h]; omega
    repeat' first
      | apply AW.seq | apply AW.region | apply AW.ret | apply AW.block | apply AW.skip | apply AW.exit | apply AW.scope | apply AW.label | apply AWL.nil | apply D.nil
      | refine W.draw cx_mixed (by decide +kernel) ?_
      | ((first | (apply W.step cx_ok; decide) | (apply D.step cx_ok; decide; decide) | apply W.store cx_ok | (apply W.gS; rfl; decide) | (apply D.gS; rfl; decide; decide) | apply AW.cond | apply W.mapUpdate cx_ok); (simp (disch := (first | omega | (simp only [zE, zF, zD, zC, zA, zB, rwI_len, rowT_len, spanT_len, bothL_len]; omega))) only [push_cast, simprocAttr, takeM, dropM, zK, zA, zB, zN, zQ, zR, zO, zP, zT, zS, zU, leT, zH, pureL, pureA, natNe, zI, zG, TyD.isAgg, zJ, hS1, hrb1, hgb1, hpb1, hgg1, hmm1, hk1, hg1, hx1, hfi, pickM] <;> rfl); all_goals try ((with_reducible intro hI); try first | (cases hI; done) | (simp only [INTS, zL] at hI; try first | (exfalso; omega) | (have hT : True := hI; clear hT hI))))
      | (refine W.makeMap cx_ok (by simp only [push_cast, simprocAttr] <;> rfl) (by decide) ?_)
      | (apply W.append cx_ok; decide; rfl; rfl; rfl; decide; (iterate 3 (simp (disch := (first | omega | (simp only [zE, zF, zD, zC, zA, zB, rwI_len, rowT_len, spanT_len, bothL_len]; omega))) only [push_cast, simprocAttr, takeM, dropM, zK, zA, zB, zN, zQ, zR, zO, zP, zT, zS, zU, leT, zH, pureL, pureA, natNe, zI, zG, TyD.isAgg, zJ, hS1, hrb1, hgb1, hpb1, hgg1, hmm1, hk1, hg1, hx1, hfi, pickM] <;> rfl)); (first | (focus (simp; done)) | (intro c hc; obtain ⟨x, _, rfl⟩ := List.mem_map.1 hc; rfl)); ((first | rfl | simp (disch := omega) only [push_cast])); ((try dsimp only); (try simp only [zF, zE, zD, zC, zA, zB, rwI_len, rowT_len, spanT_len, bothL_len]); omega); ((try dsimp only); (try simp only [zF, zE, zD, zC, zA, zB, rwI_len, rowT_len, spanT_len, bothL_len]); omega))

    refine W.callm cx_ok (by decide) (f := 122) (caps := [.ptr (nx + 1) 0 0 1]) (by simp (disch := omega) only [push_cast, simprocAttr, natNe, zI, zG, TyD.isAgg, zJ, hS1, hrb1, hgb1, hpb1, hgg1, hmm1, hk1, hg1, hx1, hfi, pickM] <;> rfl) (between_m (3 + strikeI x.strike 0 r.strikes) x.seen hsi ⟨by omega, by omega⟩ M1 (lb := nx + 1) (lo := nx + 4) (lw := lw1) (by omega) (by omega) (by dsimp only [St.put, nxA]; omega) (by dsimp only [St.put, nxA]; omega) (by simp (disch := omega) only [push_cast, simprocAttr, natNe, zI, zG, TyD.isAgg, zJ, hS1, hrb1, hgb1, hpb1, hgg1, hmm1, hk1, hg1, hx1, hfi, pickM] <;> rfl) (by simp (disch := omega) only [push_cast, simprocAttr, natNe, zI, zG, TyD.isAgg, zJ, hS1, hrb1, hgb1, hpb1, hgg1, hmm1, hk1, hg1, hx1, hfi, pickM] <;> rfl) (by simp (disch := omega) only [push_cast, simprocAttr, natNe, zI, zG, TyD.isAgg, zJ, hS1, hrb1, hgb1, hpb1, hgg1, hmm1, hk1, hg1, hx1, hfi, pickM] <;> rfl) hp21) ?_
    rintro _ _ _ ⟨rfl, rfl, rfl⟩
    repeat' first
      | apply AW.seq | apply AW.region | apply AW.ret | apply AW.block | apply AW.skip | apply AW.exit | apply AW.scope | apply AW.label | apply AWL.nil | apply D.nil
      | refine W.draw cx_mixed (by decide +kernel) ?_
      | ((first | (apply W.step cx_ok; decide) | (apply D.step cx_ok; decide; decide) | apply W.store cx_ok | (apply W.gS; rfl; decide) | (apply D.gS; rfl; decide; decide) | apply AW.cond | apply W.mapUpdate cx_ok); (simp (disch := (first | omega | (simp only [zE, zF, zD, zC, zA, zB, rwI_len, rowT_len, spanT_len, bothL_len]; omega))) only [push_cast, simprocAttr, takeM, dropM, zK, zA, zB, zN, zQ, zR, zO, zP, zT, zS, zU, leT, zH, pureL, pureA, natNe, zI, zG, TyD.isAgg, zJ, hS1, hrb1, hgb1, hpb1, hgg1, hmm1, hk1, hg1, hx1, hfi, pickM] <;> rfl); all_goals try ((with_reducible intro hI); try first | (cases hI; done) | (simp only [INTS, zL] at hI; try first | (exfalso; omega) | (have hT : True := hI; clear hT hI))))
      | (refine W.makeMap cx_ok (by simp only [push_cast, simprocAttr] <;> rfl) (by decide) ?_)
      | (apply W.append cx_ok; decide; rfl; rfl; rfl; decide; (iterate 3 (simp (disch := (first | omega | (simp only [zE, zF, zD, zC, zA, zB, rwI_len, rowT_len, spanT_len, bothL_len]; omega))) only [push_cast, simprocAttr, takeM, dropM, zK, zA, zB, zN, zQ, zR, zO, zP, zT, zS, zU, leT, zH, pureL, pureA, natNe, zI, zG, TyD.isAgg, zJ, hS1, hrb1, hgb1, hpb1, hgg1, hmm1, hk1, hg1, hx1, hfi, pickM] <;> rfl)); (first | (focus (simp; done)) | (intro c hc; obtain ⟨x, _, rfl⟩ := List.mem_map.1 hc; rfl)); ((first | rfl | simp (disch := omega) only [push_cast])); ((try dsimp only); (try simp only [zF, zE, zD, zC, zA, zB, rwI_len, rowT_len, spanT_len, bothL_len]); omega); ((try dsimp only); (try simp only [zF, zE, zD, zC, zA, zB, rwI_len, rowT_len, spanT_len, bothL_len]); omega))

    all_goals (refine ⟨rest1.length, ?_, k1 + 1, (M1.length + 2), (M1 ++ bothL (3 + strikeI x.strike 0 r.strikes).toNat x.seen), rest1, rfl, hd1, (by rw [List.append_assoc]; exact hp11), (by simp [bothL_len]), (by simp [bothL_len]; omega), (by omega), (by (try simp (disch := omega) only [push_cast, simprocAttr, natNe, zI, zG, TyD.isAgg, zJ, hS1]); (repeat (refine hJ.frame _ _ _ _ ?_ (by omega))); exact hp51), ?_, ?_, ?_, ?_, ?_, ?_, ?_, ?_, ?_, ?_, ?_, ?_, ?_, ?_, ?_, ?_, ?_, ?_, ?_, ?_⟩; ((simp only [List.length_cons] at *; omega)); all_goals first | (simp (disch := omega) only [push_cast, simprocAttr, hS1, natNe, zI, zG, TyD.isAgg, zJ, hrb1, hgb1, hpb1, hgg1, hmm1, hk1, hg1, hx1, hfi, pickM, zY, zX, zW, zE, zD, zC, List.append_assoc, yB, yA, isEmpty_map, zV, zM, yC, bothL_len] <;> first | rfl | omega) | omega)
  have hk1 := drop_nil hp01
  simp only [sgL, List.nil_append] at hp11
  unfold T1_ at hp11
  repeat' first
    | apply AW.seq | apply AW.region | apply AW.ret | apply AW.block | apply AW.skip | apply AW.exit | apply AW.scope | apply AW.label | apply AWL.nil | apply D.nil
    | refine W.draw cx_mixed (by decide +kernel) ?_
    | ((first | (apply W.step cx_ok; decide) | (apply D.step cx_ok; decide; decide) | apply W.store cx_ok | (apply W.gS; rfl; decide) | (apply D.gS; rfl; decide; decide) | apply AW.cond | apply W.mapUpdate cx_ok); (simp (disch := (first | omega | (simp only [zE, zF, zD, zC, zA, zB, rwI_len, rowT_len, spanT_len, bothL_len]; omega))) only [push_cast, simprocAttr, takeM, dropM, zK, zA, zB, zN, zQ, zR, zO, zP, zT, zS, zU, leT, zH, pureL, pureA, natNe, zI, zG, TyD.isAgg, zJ, hS1, hrb1, hgb1, hpb1, hgg1, hmm1, hk1, rowT_len] <;> rfl); all_goals try ((with_reducible intro hI); try first | (cases hI; done) | (simp only [INTS, zL] at hI; try first | (exfalso; omega) | (have hT : True := hI; clear hT hI))))
    | (refine W.makeMap cx_ok (by simp only [push_cast, simprocAttr] <;> rfl) (by decide) ?_)
    | (apply W.append cx_ok; decide; rfl; rfl; rfl; decide; (iterate 3 (simp (disch := (first | omega | (simp only [zE, zF, zD, zC, zA, zB, rwI_len, rowT_len, spanT_len, bothL_len]; omega))) only [push_cast, simprocAttr, takeM, dropM, zK, zA, zB, zN, zQ, zR, zO, zP, zT, zS, zU, leT, zH, pureL, pureA, natNe, zI, zG, TyD.isAgg, zJ, hS1, hrb1, hgb1, hpb1, hgg1, hmm1, hk1, rowT_len] <;> rfl)); (first | (focus (simp; done)) | (intro c hc; obtain ⟨x, _, rfl⟩ := List.mem_map.1 hc; rfl)); ((first | rfl | simp (disch := omega) only [push_cast])); ((try dsimp only); (try simp only [zF, zE, zD, zC, zA, zB, rwI_len, rowT_len, spanT_len, bothL_len]); omega); ((try dsimp only); (try simp only [zF, zE, zD, zC, zA, zB, rwI_len, rowT_len, spanT_len, bothL_len]); omega))

  refine AW.loop (fun n s => ∃ (k lw : Nat) (M : List Lk), n = r.strikes.length + 1 - k ∧ (k ≤ r.strikes.length + 1) ∧ (M ++ (rwL r.strikes.length (r.strikes.length + 1 - k) k ++ linksN (nodesR r more) (rowT r.strikes.length) (spanT r)) = linksA r (nodesR r more)) ∧ (lw ≤ M.length) ∧ (M.length ≤ 28 + k) ∧ (J [] s.H) ∧ nx + 10 ≤ s.nx ∧ s.tm 0 = .v (.func (.yield l) #[] #[]) ∧ s.tm 1 = .ptr rb 0 0 1 ∧ s.tm 2 = .ptr gb 0 0 1 ∧ s.tm 3 = .ptr pb 0 0 1 ∧ s.tm 5 = .ptr nx 0 0 1 ∧ s.tm 8 = .ptr (nx + 1) 0 0 1 ∧ s.tm 9 = .clo 122 [.ptr (nx + 1) 0 0 1] ∧ s.tm 10 = .map (nx + 7) ∧ s.tm 11 = .ref (nx + 8) 0 (r.strikes.length + 2) ∧ s.tm 12 = .ref (nx + 9) 0 (r.strikes.length + 2) ∧ s.tm 18 = ai ((k : Int) + 1) ∧ Pg.rowAt s.H nx = some { k := 12, es := [eSession r.s], ty := 26 } ∧ Pg.rowAt s.H (nx + 1) = some { k := 1, es := [[.ref (nx + 4) 0 (M).length]], ty := 62 } ∧ Pg.rowAt s.H (nx + 4) = some { k := 3, es := (M).map eLink, ty := 66, lo := lw } ∧ Pg.rowAt s.H (nx + 8) = some { k := 1, es := (rowT r.strikes.length).map eInt, ty := 3, lo := r.strikes.length + 2 } ∧ Pg.rowAt s.H (nx + 9) = some { k := 2, es := (spanT r).map eSpan, ty := 23, lo := r.strikes.length + 2 }) (r.strikes.length + 1) ⟨0, lw1, M1, rfl, (Nat.zero_le _), hp11, hp21, (by omega), (by (try simp (disch := omega) only [push_cast, simprocAttr, natNe, zI, zG, TyD.isAgg, zJ, hS1]); (repeat (refine hJ.frame _ _ _ _ ?_ (by omega))); exact hp51), ?_, ?_, ?_, ?_, ?_, ?_, ?_, ?_, ?_, ?_, ?_, ?_, ?_, ?_, ?_, ?_, ?_⟩ ?_
  iterate 17 (first | (simp (disch := omega) only [push_cast, simprocAttr, natNe, zI, zG, TyD.isAgg, zJ, hrb1, hgb1, hpb1, hgg1, hmm1, hS1, hk1, Int.natCast_zero, Int.zero_add] <;> first | rfl | omega) | omega)
  rintro n2 s2 ⟨k2, lw2, M2, hn2, hp02, hp12, hp22, hp32, hp42, hnl2, hS2⟩
  refine AW.fresh fun hfr2 => ?_
  obtain ⟨hrb2, hgb2, hpb2, ⟨ga2, gl2, hgg2⟩, hmm2⟩ := hJ.sys _ _ hp42
  by_cases hle : k2 ≤ r.strikes.length
  · have hle1 : (k2 : Int) + 1 < (r.strikes.length : Int) + 1 + 1 := by omega
    have hle0 : (k2 : Int) < (r.strikes.length : Int) + 1 + 1 := by omega
    have q0 : (0 : Int) ≤ (k2 : Int) + 1 := by omega
    have q1 : ((k2 : Int) + 1).toNat = k2 + 1 := by omega
    obtain ⟨ra, rb', rm⟩ := rowK_at hle
    have ra1 : ((rowT r.strikes.length).map eInt).getD (k2 + 1) [] = [ai ((rowK r.strikes.length k2).a : Int)] := by rw [getD_eInt _ _ (by rw [rowT_len]; omega), ra]
    have rb1 : ((rowT r.strikes.length).map eInt).getD k2 [] = [ai ((rowK r.strikes.length k2).b : Int)] := by rw [getD_eInt _ _ (by rw [rowT_len]; omega), rb']
    have ra2 : ((rowT r.strikes.length).map eInt)[k2 + 1]? = some [ai ((rowK r.strikes.length k2).a : Int)] := by rw [get_eInt _ _ (by rw [rowT_len]; omega), ra]
    have rb2 : ((rowT r.strikes.length).map eInt)[k2]? = some [ai ((rowK r.strikes.length k2).b : Int)] := by rw [get_eInt _ _ (by rw [rowT_len]; omega), rb']
    rw [show r.strikes.length + 1 - k2 = r.strikes.length - k2 + 1 by omega, rwL] at hp12
    repeat' first
      | apply AW.seq | apply AW.region | apply AW.ret | apply AW.block | apply AW.skip | apply AW.exit | apply AW.scope | apply AW.label | apply AWL.nil | apply D.nil
      | refine AW.draw (id := 25) cx_mixed [12, 13] [] [] 14 (by decide +kernel) ?_
      | refine W.draw cx_mixed (by decide +kernel) ?_
      | ((first | (apply W.step cx_ok; decide) | (apply D.step cx_ok; decide; decide) | apply W.store cx_ok | (apply W.gS; rfl; decide) | (apply D.gS; rfl; decide; decide) | apply AW.cond | apply W.mapUpdate cx_ok); (simp (disch := (first | omega | (simp only [zE, zF, zD, zC, zA, zB, rwI_len, rowT_len, spanT_len, bothL_len]; omega))) only [push_cast, simprocAttr, takeM, dropM, zK, zA, zB, zN, zQ, zR, zO, zP, zT, zS, zU, leT, zH, pureL, pureA, natNe, zI, zG, TyD.isAgg, zJ, hS2, hrb2, hgb2, hpb2, hgg2, hmm2, hfr2, hle1, hle0, q0, q1, ra1, rb1, ra2, rb2, rm, rowT_len, Int.add_sub_cancel] <;> rfl); all_goals try ((with_reducible intro hI); try first | (cases hI; done) | (simp only [INTS, zL] at hI; try first | (exfalso; omega) | (have hT : True := hI; clear hT hI))))
      | ((first | (apply D.store cx_ok; decide) | (apply D.stept cx_ok; decide; decide) | (apply D.mapUpdate cx_ok; decide) | (apply D.stepm cx_ok; decide; decide)); (simp (disch := (first | omega | (simp only [zE, zF, zD, zC, zA, zB, rwI_len, rowT_len, spanT_len, bothL_len]; omega))) only [push_cast, simprocAttr, takeM, dropM, zK, zA, zB, zN, zQ, zR, zO, zP, zT, zS, zU, leT, zH, pureL, pureA, natNe, zI, zG, TyD.isAgg, zJ, hS2, hrb2, hgb2, hpb2, hgg2, hmm2, hfr2, hle1, hle0, q0, q1, ra1, rb1, ra2, rb2, rm, rowT_len, Int.add_sub_cancel] <;> rfl); try first | exact .inl rfl | exact .inr (by simp))
      | (refine W.makeMap cx_ok (by simp only [push_cast, simprocAttr] <;> rfl) (by decide) ?_)
      | ((apply D.alloc cx_ok; decide; decide); (simp (disch := (first | omega | (simp only [zE, zF, zD, zC, zA, zB, rwI_len, rowT_len, spanT_len, bothL_len]; omega))) only [push_cast, simprocAttr, takeM, dropM, zK, zA, zB, zN, zQ, zR, zO, zP, zT, zS, zU, leT, zH, pureL, pureA, natNe, zI, zG, TyD.isAgg, zJ, hS2, hrb2, hgb2, hpb2, hgg2, hmm2, hfr2, hle1, hle0, q0, q1, ra1, rb1, ra2, rb2, rm, rowT_len, Int.add_sub_cancel] <;> rfl); (simp (disch := (first | omega | (simp only [zE, zF, zD, zC, zA, zB, rwI_len, rowT_len, spanT_len, bothL_len]; omega))) only [push_cast, simprocAttr, takeM, dropM, zK, zA, zB, zN, zQ, zR, zO, zP, zT, zS, zU, leT, zH, pureL, pureA, natNe, zI, zG, TyD.isAgg, zJ, hS2, hrb2, hgb2, hpb2, hgg2, hmm2, hfr2, hle1, hle0, q0, q1, ra1, rb1, ra2, rb2, rm, rowT_len, Int.add_sub_cancel, updH_at, zJ]); (simp (disch := (first | omega | (simp only [zE, zF, zD, zC, zA, zB, rwI_len, rowT_len, spanT_len, bothL_len]; omega))) only [push_cast, simprocAttr, takeM, dropM, zK, zA, zB, zN, zQ, zR, zO, zP, zT, zS, zU, leT, zH, pureL, pureA, natNe, zI, zG, TyD.isAgg, zJ, hS2, hrb2, hgb2, hpb2, hgg2, hmm2, hfr2, hle1, hle0, q0, q1, ra1, rb1, ra2, rb2, rm, rowT_len, Int.add_sub_cancel] <;> omega))
      | ((apply D.alloct cx_ok; decide; decide); (simp (disch := (first | omega | (simp only [zE, zF, zD, zC, zA, zB, rwI_len, rowT_len, spanT_len, bothL_len]; omega))) only [push_cast, simprocAttr, takeM, dropM, zK, zA, zB, zN, zQ, zR, zO, zP, zT, zS, zU, leT, zH, pureL, pureA, natNe, zI, zG, TyD.isAgg, zJ, hS2, hrb2, hgb2, hpb2, hgg2, hmm2, hfr2, hle1, hle0, q0, q1, ra1, rb1, ra2, rb2, rm, rowT_len, Int.add_sub_cancel] <;> rfl); first | exact .inl rfl | exact .inr (by simp))
      | (apply W.append cx_ok; decide; rfl; rfl; rfl; decide; (iterate 3 (simp (disch := (first | omega | (simp only [zE, zF, zD, zC, zA, zB, rwI_len, rowT_len, spanT_len, bothL_len]; omega))) only [push_cast, simprocAttr, takeM, dropM, zK, zA, zB, zN, zQ, zR, zO, zP, zT, zS, zU, leT, zH, pureL, pureA, natNe, zI, zG, TyD.isAgg, zJ, hS2, hrb2, hgb2, hpb2, hgg2, hmm2, hfr2, hle1, hle0, q0, q1, ra1, rb1, ra2, rb2, rm, rowT_len, Int.add_sub_cancel] <;> rfl)); (first | (focus (simp; done)) | (intro c hc; obtain ⟨x, _, rfl⟩ := List.mem_map.1 hc; rfl)); ((first | rfl | simp (disch := omega) only [push_cast])); ((try dsimp only); (try simp only [zF, zE, zD, zC, zA, zB, rwI_len, rowT_len, spanT_len, bothL_len]); omega); ((try dsimp only); (try simp only [zF, zE, zD, zC, zA, zB, rwI_len, rowT_len, spanT_len, bothL_len]); omega))
      | (apply D.append cx_ok; decide; decide; rfl; rfl; rfl; decide; (iterate 3 (simp (disch := (first | omega | (simp only [zE, zF, zD, zC, zA, zB, rwI_len, rowT_len, spanT_len, bothL_len]; omega))) only [push_cast, simprocAttr, takeM, dropM, zK, zA, zB, zN, zQ, zR, zO, zP, zT, zS, zU, leT, zH, pureL, pureA, natNe, zI, zG, TyD.isAgg, zJ, hS2, hrb2, hgb2, hpb2, hgg2, hmm2, hfr2, hle1, hle0, q0, q1, ra1, rb1, ra2, rb2, rm, rowT_len, Int.add_sub_cancel] <;> rfl)); (first | (focus (simp; done)) | (intro c hc; obtain ⟨x, _, rfl⟩ := List.mem_map.1 hc; rfl)); ((first | rfl | (simp (disch := omega) only [push_cast]; done))); ((try dsimp only); (try simp only [zF, zE, zD, zC, zA, zB, rwI_len, rowT_len, spanT_len, bothL_len]); omega); ((try dsimp only); (try simp only [zF, zE, zD, zC, zA, zB, rwI_len, rowT_len, spanT_len, bothL_len]); omega); first | exact .inl rfl | exact .inr (by simp))

    all_goals (refine ⟨r.strikes.length + 1 - (k2 + 1), ?_, k2 + 1, (M2.length + 1), (M2 ++ [rowK r.strikes.length k2]), rfl, (by omega), (by rw [show r.strikes.length + 1 - (k2 + 1) = r.strikes.length - k2 by omega, List.append_assoc]; exact hp12), (by simp), (by simp; omega), (by (try simp (disch := omega) only [push_cast, simprocAttr, natNe, zI, zG, TyD.isAgg, zJ, hS2]); (repeat (refine hJ.frame _ _ _ _ ?_ (by omega))); exact hp42), ?_, ?_, ?_, ?_, ?_, ?_, ?_, ?_, ?_, ?_, ?_, ?_, ?_, ?_, ?_, ?_, ?_⟩; (omega); all_goals first | (simp (disch := omega) only [push_cast, simprocAttr, hS2, natNe, zI, zG, TyD.isAgg, zJ, hrb2, hgb2, hpb2, hgg2, hmm2, hfr2, hle1, hle0, q0, q1, ra1, rb1, ra2, rb2, rm, rowT_len, Int.add_sub_cancel, zY, zX, zW, zE, zD, zC, List.append_assoc, yB, yA, isEmpty_map, zV, zM, yC] <;> first | rfl | omega) | omega)
  have hle1 : ¬ (k2 : Int) + 1 < (r.strikes.length : Int) + 1 + 1 := by omega
  rw [show r.strikes.length + 1 - k2 = 0 by omega, rwL, List.nil_append] at hp12
  repeat' first
    | apply AW.seq | apply AW.region | apply AW.ret | apply AW.block | apply AW.skip | apply AW.exit | apply AW.scope | apply AW.label | apply AWL.nil | apply D.nil
    | refine W.draw cx_mixed (by decide +kernel) ?_
    | ((first | (apply W.step cx_ok; decide) | (apply D.step cx_ok; decide; decide) | apply W.store cx_ok | (apply W.gS; rfl; decide) | (apply D.gS; rfl; decide; decide) | apply AW.cond | apply W.mapUpdate cx_ok); (simp (disch := (first | omega | (simp only [zE, zF, zD, zC, zA, zB, rwI_len, rowT_len, spanT_len, bothL_len]; omega))) only [push_cast, simprocAttr, takeM, dropM, zK, zA, zB, zN, zQ, zR, zO, zP, zT, zS, zU, leT, zH, pureL, pureA, natNe, zI, zG, TyD.isAgg, zJ, hS2, hrb2, hgb2, hpb2, hgg2, hmm2, hle1, rowT_len] <;> rfl); all_goals try ((with_reducible intro hI); try first | (cases hI; done) | (simp only [INTS, zL] at hI; try first | (exfalso; omega) | (have hT : True := hI; clear hT hI))))
    | (refine W.makeMap cx_ok (by simp only [push_cast, simprocAttr] <;> rfl) (by decide) ?_)
    | (apply W.append cx_ok; decide; rfl; rfl; rfl; decide; (iterate 3 (simp (disch := (first | omega | (simp only [zE, zF, zD, zC, zA, zB, rwI_len, rowT_len, spanT_len, bothL_len]; omega))) only [push_cast, simprocAttr, takeM, dropM, zK, zA, zB, zN, zQ, zR, zO, zP, zT, zS, zU, leT, zH, pureL, pureA, natNe, zI, zG, TyD.isAgg, zJ, hS2, hrb2, hgb2, hpb2, hgg2, hmm2, hle1, rowT_len] <;> rfl)); (first | (focus (simp; done)) | (intro c hc; obtain ⟨x, _, rfl⟩ := List.mem_map.1 hc; rfl)); ((first | rfl | simp (disch := omega) only [push_cast])); ((try dsimp only); (try simp only [zF, zE, zD, zC, zA, zB, rwI_len, rowT_len, spanT_len, bothL_len]); omega); ((try dsimp only); (try simp only [zF, zE, zD, zC, zA, zB, rwI_len, rowT_len, spanT_len, bothL_len]); omega))

  refine AW.loop (fun n s => ∃ (k lw : Nat) (M : List Lk) (rest : List Int) (sps : List Span), n = rest.length ∧ ((rowT r.strikes.length).drop k = rest) ∧ ((spanT r).drop k = sps) ∧ (M ++ linksN (nodesR r more) rest sps = linksA r (nodesR r more)) ∧ (lw ≤ M.length) ∧ (M.length ≤ 42 + 2 * k) ∧ (k ≤ r.strikes.length + 2) ∧ (J [] s.H) ∧ nx + 10 ≤ s.nx ∧ s.tm 0 = .v (.func (.yield l) #[] #[]) ∧ s.tm 1 = .ptr rb 0 0 1 ∧ s.tm 2 = .ptr gb 0 0 1 ∧ s.tm 3 = .ptr pb 0 0 1 ∧ s.tm 5 = .ptr nx 0 0 1 ∧ s.tm 8 = .ptr (nx + 1) 0 0 1 ∧ s.tm 9 = .clo 122 [.ptr (nx + 1) 0 0 1] ∧ s.tm 10 = .map (nx + 7) ∧ s.tm 11 = .ref (nx + 8) 0 (r.strikes.length + 2) ∧ s.tm 12 = .ref (nx + 9) 0 (r.strikes.length + 2) ∧ s.tm 125 = .ref (nx + 8) 0 (r.strikes.length + 2) ∧ s.tm 126 = ai ((r.strikes.length : Int) + 1 + 1) ∧ s.tm 127 = ai k ∧ Pg.rowAt s.H nx = some { k := 12, es := [eSession r.s], ty := 26 } ∧ Pg.rowAt s.H (nx + 1) = some { k := 1, es := [[.ref (nx + 4) 0 (M).length]], ty := 62 } ∧ Pg.rowAt s.H (nx + 4) = some { k := 3, es := (M).map eLink, ty := 66, lo := lw } ∧ Pg.rowAt s.H (nx + 8) = some { k := 1, es := (rowT r.strikes.length).map eInt, ty := 3, lo := r.strikes.length + 2 } ∧ Pg.rowAt s.H (nx + 9) = some { k := 2, es := (spanT r).map eSpan, ty := 23, lo := r.strikes.length + 2 }) ((rowT r.strikes.length).length) ⟨0, lw2, M2, rowT r.strikes.length, spanT r, by simp, rfl, rfl, hp12, hp22, (by omega), (Nat.zero_le _), (by (try simp (disch := omega) only [push_cast, simprocAttr, natNe, zI, zG, TyD.isAgg, zJ, hS2]); (repeat (refine hJ.frame _ _ _ _ ?_ (by omega))); exact hp42), ?_, ?_, ?_, ?_, ?_, ?_, ?_, ?_, ?_, ?_, ?_, ?_, ?_, ?_, ?_, ?_, ?_, ?_, ?_⟩ ?_
  iterate 19 (first | (simp (disch := omega) only [push_cast, simprocAttr, natNe, zI, zG, TyD.isAgg, zJ, hrb2, hgb2, hpb2, hgg2, hmm2, hS2, hle1, rowT_len] <;> first | rfl | omega) | omega)
  rintro n3 s3 ⟨k3, lw3, M3, rest3, sps3, hn3, hp03, hp13, hp23, hp33, hp43, hp53, hp63, hnl3, hS3⟩
  refine AW.fresh fun hfr3 => ?_
  obtain ⟨hrb3, hgb3, hpb3, ⟨ga3, gl3, hgg3⟩, hmm3⟩ := hJ.sys _ _ hp63
  have hlrow := rowT_len r.strikes.length
  have hlspan := spanT_len r
  rcases rest3 with _ | ⟨a, rest3⟩
  rotate_left
  · rcases sps3 with _ | ⟨x, sps3⟩
    · exfalso
      have e1 := drop_cons hp03 eInt []
      have e2 := List.drop_eq_nil_iff.1 hp13
      omega
    obtain ⟨hk3, hg3, hd3, hl3, hm3, hx3⟩ := drop_cons hp03 eInt []
    obtain ⟨hk3', hg3', hd3', hl3', hm3', hx3'⟩ := drop_cons hp13 eSpan []
    obtain ⟨m1, m2, m3, m4, m5⟩ := mem_spanT (more := more) hv hm3'
    have ha0 := rowT_nonneg a hm3
    have ha1 : ((a.toNat : Nat) : Int) = a := Int.toNat_of_nonneg ha0
    have hA : atP 4 x.lo (nodesR r more) = (((atI 4 x.lo 0 (nodesR r more)).toNat : Nat) : Int) := by rw [atP_mark m1]; have := (at_mark m1).1; omega
    have hB : atP 4 (x.hi + 1) (nodesR r more) = (((atI 4 (x.hi + 1) 0 (nodesR r more)).toNat : Nat) : Int) := by rw [atP_mark m2]; have := (at_mark m2).1; omega
    have hq3 : (k3 : Int) < (r.strikes.length : Int) + 1 + 1 := by omega
    simp only [linksN] at hp23
    repeat' first
      | ((first | (apply W.callr cx_ok; decide) | (apply D.callr cx_ok; decide; decide)); (iterate 2 (simp (disch := (first | omega | (simp only [zE, zF, zD, zC, zA, zB, rwI_len, rowT_len, spanT_len, bothL_len]; omega))) only [push_cast, simprocAttr, takeM, dropM, zK, zA, zB, zN, zQ, zR, zO, zP, zT, zS, zU, leT, zH, pureL, pureA, natNe, zI, zG, TyD.isAgg, zJ, hS3, hrb3, hgb3, hpb3, hgg3, hmm3, hfr3, hq3, hg3, hx3, hg3', hx3', hA, hB, rowT_len, spanT_len] <;> rfl)); (exact at_r (nodesR r more) _ _ (by simp (disch := (first | omega | (simp only [zE, zF, zD, zC, zA, zB, rwI_len, rowT_len, spanT_len, bothL_len]; omega))) only [push_cast, simprocAttr, takeM, dropM, zK, zA, zB, zN, zQ, zR, zO, zP, zT, zS, zU, leT, zH, pureL, pureA, natNe, zI, zG, TyD.isAgg, zJ, hS3, hrb3, hgb3, hpb3, hgg3, hmm3, hfr3, hq3, hg3, hx3, hg3', hx3', hA, hB, rowT_len, spanT_len] <;> rfl) (by simp (disch := (first | omega | (simp only [zE, zF, zD, zC, zA, zB, rwI_len, rowT_len, spanT_len, bothL_len]; omega))) only [push_cast, simprocAttr, takeM, dropM, zK, zA, zB, zN, zQ, zR, zO, zP, zT, zS, zU, leT, zH, pureL, pureA, natNe, zI, zG, TyD.isAgg, zJ, hS3, hrb3, hgb3, hpb3, hgg3, hmm3, hfr3, hq3, hg3, hx3, hg3', hx3', hA, hB, rowT_len, spanT_len] <;> rfl)))
      | apply AW.seq | apply AW.region | apply AW.ret | apply AW.block | apply AW.skip | apply AW.exit | apply AW.scope | apply AW.label | apply AWL.nil | apply D.nil
      | refine AW.draw (id := 29) cx_mixed [21, 22] [] [] 23 (by decide +kernel) ?_
      | refine W.draw cx_mixed (by decide +kernel) ?_
      | ((first | (apply W.step cx_ok; decide) | (apply D.step cx_ok; decide; decide) | apply W.store cx_ok | (apply W.gS; rfl; decide) | (apply D.gS; rfl; decide; decide) | apply AW.cond | apply W.mapUpdate cx_ok); (simp (disch := (first | omega | (simp only [zE, zF, zD, zC, zA, zB, rwI_len, rowT_len, spanT_len, bothL_len]; omega))) only [push_cast, simprocAttr, takeM, dropM, zK, zA, zB, zN, zQ, zR, zO, zP, zT, zS, zU, leT, zH, pureL, pureA, natNe, zI, zG, TyD.isAgg, zJ, hS3, hrb3, hgb3, hpb3, hgg3, hmm3, hfr3, hq3, hg3, hx3, hg3', hx3', hA, hB, rowT_len, spanT_len] <;> rfl); all_goals try ((with_reducible intro hI); try first | (cases hI; done) | (simp only [INTS, zL] at hI; try first | (exfalso; omega) | (have hT : True := hI; clear hT hI))))
      | ((first | (apply D.store cx_ok; decide) | (apply D.stept cx_ok; decide; decide) | (apply D.mapUpdate cx_ok; decide) | (apply D.stepm cx_ok; decide; decide)); (simp (disch := (first | omega | (simp only [zE, zF, zD, zC, zA, zB, rwI_len, rowT_len, spanT_len, bothL_len]; omega))) only [push_cast, simprocAttr, takeM, dropM, zK, zA, zB, zN, zQ, zR, zO, zP, zT, zS, zU, leT, zH, pureL, pureA, natNe, zI, zG, TyD.isAgg, zJ, hS3, hrb3, hgb3, hpb3, hgg3, hmm3, hfr3, hq3, hg3, hx3, hg3', hx3', hA, hB, rowT_len, spanT_len] <;> rfl); try first | exact .inl rfl | exact .inr (by simp))
      | (refine W.makeMap cx_ok (by simp only [push_cast, simprocAttr] <;> rfl) (by decide) ?_)
      | ((apply D.alloc cx_ok; decide; decide); (simp (disch := (first | omega | (simp only [zE, zF, zD, zC, zA, zB, rwI_len, rowT_len, spanT_len, bothL_len]; omega))) only [push_cast, simprocAttr, takeM, dropM, zK, zA, zB, zN, zQ, zR, zO, zP, zT, zS, zU, leT, zH, pureL, pureA, natNe, zI, zG, TyD.isAgg, zJ, hS3, hrb3, hgb3, hpb3, hgg3, hmm3, hfr3, hq3, hg3, hx3, hg3', hx3', hA, hB, rowT_len, spanT_len] <;> rfl); (simp (disch := (first | omega | (simp only [zE, zF, zD, zC, zA, zB, rwI_len, rowT_len, spanT_len, bothL_len]; omega))) only [push_cast, simprocAttr, takeM, dropM, zK, zA, zB, zN, zQ, zR, zO, zP, zT, zS, zU, leT, zH, pureL, pureA, natNe, zI, zG, TyD.isAgg, zJ, hS3, hrb3, hgb3, hpb3, hgg3, hmm3, hfr3, hq3, hg3, hx3, hg3', hx3', hA, hB, rowT_len, spanT_len, updH_at, zJ]); (simp (disch := (first | omega | (simp only [zE, zF, zD, zC, zA, zB, rwI_len, rowT_len, spanT_len, bothL_len]; omega))) only [push_cast, simprocAttr, takeM, dropM, zK, zA, zB, zN, zQ, zR, zO, zP, zT, zS, zU, leT, zH, pureL, pureA, natNe, zI, zG, TyD.isAgg, zJ, hS3, hrb3, hgb3, hpb3, hgg3, hmm3, hfr3, hq3, hg3, hx3, hg3', hx3', hA, hB, rowT_len, spanT_len] <;> omega))
      | ((apply D.alloct cx_ok; decide; decide); (simp (disch := (first | omega | (simp only [zE, zF, zD, zC, zA, zB, rwI_len, rowT_len, spanT_len, bothL_len]; omega))) only [push_cast, simprocAttr, takeM, dropM, zK, zA, zB, zN, zQ, zR, zO, zP, zT, zS, zU, leT, zH, pureL, pureA, natNe, zI, zG, TyD.isAgg, zJ, hS3, hrb3, hgb3, hpb3, hgg3, hmm3, hfr3, hq3, hg3, hx3, hg3', hx3', hA, hB, rowT_len, spanT_len] <;> rfl); first | exact .inl rfl | exact .inr (by simp))
      | (apply W.append cx_ok; decide; rfl; rfl; rfl; decide; (iterate 3 (simp (disch := (first | omega | (simp only [zE, zF, zD, zC, zA, zB, rwI_len, rowT_len, spanT_len, bothL_len]; omega))) only [push_cast, simprocAttr, takeM, dropM, zK, zA, zB, zN, zQ, zR, zO, zP, zT, zS, zU, leT, zH, pureL, pureA, natNe, zI, zG, TyD.isAgg, zJ, hS3, hrb3, hgb3, hpb3, hgg3, hmm3, hfr3, hq3, hg3, hx3, hg3', hx3', hA, hB, rowT_len, spanT_len] <;> rfl)); (first | (focus (simp; done)) | (intro c hc; obtain ⟨x, _, rfl⟩ := List.mem_map.1 hc; rfl)); ((first | rfl | simp (disch := omega) only [push_cast])); ((try dsimp only); (try simp only [zF, zE, zD, zC, zA, zB, rwI_len, rowT_len, spanT_len, bothL_len]); omega); ((try dsimp only); (try simp only [zF, zE, zD, zC, zA, zB, rwI_len, rowT_len, spanT_len, bothL_len]); omega))
      | (apply D.append cx_ok; decide; decide; rfl; rfl; rfl; decide; (iterate 3 (simp (disch := (first | omega | (simp only [zE, zF, zD, zC, zA, zB, rwI_len, rowT_len, spanT_len, bothL_len]; omega))) only [push_cast, simprocAttr, takeM, dropM, zK, zA, zB, zN, zQ, zR, zO, zP, zT, zS, zU, leT, zH, pureL, pureA, natNe, zI, zG, TyD.isAgg, zJ, hS3, hrb3, hgb3, hpb3, hgg3, hmm3, hfr3, hq3, hg3, hx3, hg3', hx3', hA, hB, rowT_len, spanT_len] <;> rfl)); (first | (focus (simp; done)) | (intro c hc; obtain ⟨x, _, rfl⟩ := List.mem_map.1 hc; rfl)); ((first | rfl | (simp (disch := omega) only [push_cast]; done))); ((try dsimp only); (try simp only [zF, zE, zD, zC, zA, zB, rwI_len, rowT_len, spanT_len, bothL_len]); omega); ((try dsimp only); (try simp only [zF, zE, zD, zC, zA, zB, rwI_len, rowT_len, spanT_len, bothL_len]); omega); first | exact .inl rfl | exact .inr (by simp))

    all_goals (refine ⟨rest3.length, ?_, k3 + 1, (M3.length + 2), (M3 ++ needleL (nodesR r more) a.toNat x), rest3, sps3, rfl, hd3, hd3', (by rw [List.append_assoc]; exact hp23), (by simp [needleL_len]), (by simp [needleL_len]; omega), (by omega), (by (try simp (disch := omega) only [push_cast, simprocAttr, natNe, zI, zG, TyD.isAgg, zJ, hS3]); (repeat (refine hJ.frame _ _ _ _ ?_ (by omega))); exact hp63), ?_, ?_, ?_, ?_, ?_, ?_, ?_, ?_, ?_, ?_, ?_, ?_, ?_, ?_, ?_, ?_, ?_, ?_, ?_⟩; ((simp only [List.length_cons] at *; omega)); all_goals first | (simp (disch := omega) only [push_cast, simprocAttr, hS3, natNe, zI, zG, TyD.isAgg, zJ, hrb3, hgb3, hpb3, hgg3, hmm3, hfr3, hq3, hg3, hx3, hg3', hx3', hA, hB, rowT_len, spanT_len, needleL, ha1, needleL_len, zY, zX, zW, zE, zD, zC, List.append_assoc, yB, yA, isEmpty_map, zV, zM, yC] <;> first | rfl | omega) | omega)
  have hq3 : ¬ (k3 : Int) < (r.strikes.length : Int) + 1 + 1 := by have := List.drop_eq_nil_iff.1 hp03; omega
  have hp23' : M3 = linksA r (nodesR r more) := by
    rw [← hp23]
    cases sps3 <;> simp [linksN]
  rw [hp23'] at hp33
  rw [hp23'] at hS3
  delta tail121 at hK
  simp only [Try.f121, Option.getD_some, dropS] at hK
  refine AW.seq ?_
  repeat' first
    | refine AW.region ?_ | refine AW.ret ?_ | refine AW.block ?_ | refine AW.skip ?_ | refine AW.exit ?_ | refine AW.scope ?_ | refine AW.label ?_ | refine AWL.nil ?_ | refine D.nil ?_
    | refine W.draw cx_mixed (by decide +kernel) ?_
    | ((first | (apply W.step cx_ok; decide) | (apply D.step cx_ok; decide; decide) | apply W.store cx_ok | (apply W.gS; rfl; decide) | (apply D.gS; rfl; decide; decide) | apply AW.cond | apply W.mapUpdate cx_ok); (simp (disch := (first | omega | (simp only [zE, zF, zD, zC, zA, zB, rwI_len, rowT_len, spanT_len, bothL_len]; omega))) only [push_cast, simprocAttr, takeM, dropM, zK, zA, zB, zN, zQ, zR, zO, zP, zT, zS, zU, leT, zH, pureL, pureA, natNe, zI, zG, TyD.isAgg, zJ, hS3, hrb3, hgb3, hpb3, hgg3, hmm3, hq3] <;> rfl); all_goals try ((with_reducible intro hI); try first | (cases hI; done) | (simp only [INTS, zL] at hI; try first | (exfalso; omega) | (have hT : True := hI; clear hT hI))))
    | (refine W.makeMap cx_ok (by simp only [push_cast, simprocAttr] <;> rfl) (by decide) ?_)
    | (apply W.append cx_ok; decide; rfl; rfl; rfl; decide; (iterate 3 (simp (disch := (first | omega | (simp only [zE, zF, zD, zC, zA, zB, rwI_len, rowT_len, spanT_len, bothL_len]; omega))) only [push_cast, simprocAttr, takeM, dropM, zK, zA, zB, zN, zQ, zR, zO, zP, zT, zS, zU, leT, zH, pureL, pureA, natNe, zI, zG, TyD.isAgg, zJ, hS3, hrb3, hgb3, hpb3, hgg3, hmm3, hq3] <;> rfl)); (first | (focus (simp; done)) | (intro c hc; obtain ⟨x, _, rfl⟩ := List.mem_map.1 hc; rfl)); ((first | rfl | simp (disch := omega) only [push_cast])); ((try dsimp only); (try simp only [zF, zE, zD, zC, zA, zB, rwI_len, rowT_len, spanT_len, bothL_len]); omega); ((try dsimp only); (try simp only [zF, zE, zD, zC, zA, zB, rwI_len, rowT_len, spanT_len, bothL_len]); omega))

  refine AW.seq ?_
  repeat' first
    | refine AW.region ?_ | refine AW.ret ?_ | refine AW.block ?_ | refine AW.skip ?_ | refine AW.exit ?_ | refine AW.scope ?_ | refine AW.label ?_ | refine AWL.nil ?_ | refine D.nil ?_
    | refine W.draw cx_mixed (by decide +kernel) ?_
    | ((first | (apply W.step cx_ok; decide) | (apply D.step cx_ok; decide; decide) | apply W.store cx_ok | (apply W.gS; rfl; decide) | (apply D.gS; rfl; decide; decide) | apply AW.cond | apply W.mapUpdate cx_ok); (simp (disch := (first | omega | (simp only [zE, zF, zD, zC, zA, zB, rwI_len, rowT_len, spanT_len, bothL_len]; omega))) only [push_cast, simprocAttr, takeM, dropM, zK, zA, zB, zN, zQ, zR, zO, zP, zT, zS, zU, leT, zH, pureL, pureA, natNe, zI, zG, TyD.isAgg, zJ, hS3, hrb3, hgb3, hpb3, hgg3, hmm3, hq3] <;> rfl); all_goals try ((with_reducible intro hI); try first | (cases hI; done) | (simp only [INTS, zL] at hI; try first | (exfalso; omega) | (have hT : True := hI; clear hT hI))))
    | (refine W.makeMap cx_ok (by simp only [push_cast, simprocAttr] <;> rfl) (by decide) ?_)
    | (apply W.append cx_ok; decide; rfl; rfl; rfl; decide; (iterate 3 (simp (disch := (first | omega | (simp only [zE, zF, zD, zC, zA, zB, rwI_len, rowT_len, spanT_len, bothL_len]; omega))) only [push_cast, simprocAttr, takeM, dropM, zK, zA, zB, zN, zQ, zR, zO, zP, zT, zS, zU, leT, zH, pureL, pureA, natNe, zI, zG, TyD.isAgg, zJ, hS3, hrb3, hgb3, hpb3, hgg3, hmm3, hq3] <;> rfl)); (first | (focus (simp; done)) | (intro c hc; obtain ⟨x, _, rfl⟩ := List.mem_map.1 hc; rfl)); ((first | rfl | simp (disch := omega) only [push_cast])); ((try dsimp only); (try simp only [zF, zE, zD, zC, zA, zB, rwI_len, rowT_len, spanT_len, bothL_len]); omega); ((try dsimp only); (try simp only [zF, zE, zD, zC, zA, zB, rwI_len, rowT_len, spanT_len, bothL_len]); omega))

  refine hK _ ?_
  refine ⟨?_, ?_, ?_, ?_, ?_, ?_, ?_, ⟨lw3, hp33, ?_⟩, (by (try simp (disch := omega) only [push_cast, simprocAttr, natNe, zI, zG, TyD.isAgg, zJ, hS3]); (repeat (refine hJ.frame _ _ _ _ ?_ (by omega))); exact hp63), ?_⟩
  all_goals first | (simp (disch := omega) only [push_cast, simprocAttr, natNe, zI, zG, TyD.isAgg, zJ, hS3, hrb3, hgb3, hpb3, hgg3, hmm3] <;> first | rfl | omega) | omega

end Go.Proofs.Ks

namespace Go.Proofs.Ks
open Go Go.Pg Go.Proofs

theorem rowAt_eqH {H H' : Nat → Option AO} {i : Nat} (h : H' i = H i) : Pg.rowAt H' i = Pg.rowAt H i := by unfold Pg.rowAt; rw [h]
theorem drop_at {l : List Int} {k : Nat} {x : Int} {rest : List Int} (h : l.drop k = x :: rest) : l.getD k 0 = x := by
  have h0 : l[k]? = some x := by
    have := congrArg (fun m => m[0]?) h
    simpa using this
  rw [List.getD_eq_getElem?_getD, h0]; rfl
theorem drop_succ {l : List Int} {k : Nat} {x : Int} {rest : List Int} (h : l.drop k = x :: rest) : l.drop (k + 1) = rest := by
  have := congrArg (List.drop 1) h
  rw [List.drop_drop] at this
  simpa using this
theorem drop_lt {l : List Int} (hs : l.Pairwise (· < ·)) {k : Nat} {x : Int} {rest : List Int} (h : l.drop k = x :: rest) : ∀ y ∈ rest, x < y := by
  have h1 := hs.drop (i := k)
  rw [h, List.pairwise_cons] at h1
  exact h1.1
theorem drop_mem {l : List Int} {k : Nat} {rest : List Int} (h : l.drop k = rest) : ∀ y ∈ rest, y ∈ l := fun y hy => List.mem_of_mem_drop (h ▸ hy)
theorem all1_b {l n0 rb gb pb g m nx : Nat} {r : Rec} (hv : r.V) {more : List Int} (hml : more.length ≤ 8) (hmb : ∀ a ∈ more, 0 ≤ a ∧ a ≤ 43200) {J : List Lk → (Nat → Option AO) → Prop} (hJ : Yl l n0 rb gb pb g m r (marksR r more) (nodesR r more) J)
    (h1 : rb < n0) (h2 : gb < n0) (h3 : pb < n0) (h4 : g < n0) (h5 : m < n0) (hnx : n0 ≤ nx) {Q : AV → (Nat → Option AO) → Nat → Prop} (hQ : ∀ H n, J (linksR r more) H → nx ≤ n → Q (.tup []) H n) {s0 : St} (hs : MidA l n0 gb pb nx r (nodesR r more) J s0) :
    AW cx 232 tail121 (endM cx [] Q) s0 := by
  obtain ⟨t0, t2, t3, t5, t8, hSes, hlb, ⟨lw, hlw, hlo⟩, hj, hn0⟩ := hs
  obtain ⟨r1, r2, r3⟩ := hv.r.rate
  have hns4 := hv.r.nstops
  have hst := hv.r.stops
  obtain ⟨_, hk2, hnl⟩ := linksR_ok hv hml hmb
  have hat := fun (j : Nat) (x : Int) => @at_mark_ix r more j x
  have hso := marksR_sorted r more
  have hbd := fun (a : Int) => @marksR_bound r hv more hmb a
  have hndl := nodesR_len r more
  have hRA := linksR_eq r more
  obtain ⟨LA, hLA⟩ : ∃ z, linksA r (nodesR r more) = z := ⟨_, rfl⟩
  obtain ⟨RES, hRES⟩ : ∃ z, linksR r more = z := ⟨_, rfl⟩
  rw [hLA] at hlb hlo hRA hlw
  rw [hRES] at hk2 hRA hQ
  obtain ⟨PL, hPL⟩ : ∃ z, marksR r more = z := ⟨_, rfl⟩
  rw [hPL] at hJ hat hso hbd hRA hndl
  have hlen : LA.length ≤ 10000 := by have := congrArg List.length hRA; rw [List.length_append] at this; omega
  have hpl : PL.length ≤ 100 := by omega
  delta tail121
  simp only [Try.f121, Option.getD_some, dropS]
  obtain ⟨hrb0, hgb0, hpb0, ⟨ga0, gl0, hgg0⟩, hmm0⟩ := hJ.sys _ _ hj
  repeat' first
    | apply AW.seq | apply AW.region | apply AW.ret | apply AW.block | apply AW.skip | apply AW.exit | apply AW.scope | apply AW.label | apply AWL.nil | apply D.nil
    | refine W.draw cx_mixed (by decide +kernel) ?_
    | ((first | (apply W.step cx_ok; decide) | (apply D.step cx_ok; decide; decide) | apply W.store cx_ok | (apply W.gS; rfl; decide) | (apply D.gS; rfl; decide; decide) | apply AW.cond | apply W.mapUpdate cx_ok); (simp (disch := (first | omega | (simp only [zE, zF, zD, zC, zA, zB, rwI_len, rowT_len, spanT_len, bothL_len]; omega))) only [push_cast, simprocAttr, takeM, dropM, zK, zA, zB, zN, zQ, zR, zO, zP, zT, zS, zU, leT, zH, pureL, pureA, natNe, zI, zG, TyD.isAgg, zJ, hrb0, hgb0, hpb0, hgg0, hmm0, t0, t2, t3, t5, t8, hSes, hlb, hlo, hlen] <;> rfl); all_goals try ((with_reducible intro hI); try first | (cases hI; done) | (simp only [INTS, zL] at hI; try first | (exfalso; omega) | (have hT : True := hI; clear hT hI))))
    | ((first | (apply W.gU; rfl; decide) | (apply D.gU; rfl; decide; decide)); (simp (disch := (first | omega | (simp only [zE, zF, zD, zC, zA, zB, rwI_len, rowT_len, spanT_len, bothL_len]; omega))) only [push_cast, simprocAttr, takeM, dropM, zK, zA, zB, zN, zQ, zR, zO, zP, zT, zS, zU, leT, zH, pureL, pureA, natNe, zI, zG, TyD.isAgg, zJ, hrb0, hgb0, hpb0, hgg0, hmm0, t0, t2, t3, t5, t8, hSes, hlb, hlo, hlen] <;> rfl))
    | (refine W.makeMap cx_ok (by simp only [push_cast, simprocAttr] <;> rfl) (by decide) ?_)
    | (apply W.append cx_ok; decide; rfl; rfl; rfl; decide; (iterate 3 (simp (disch := (first | omega | (simp only [zE, zF, zD, zC, zA, zB, rwI_len, rowT_len, spanT_len, bothL_len]; omega))) only [push_cast, simprocAttr, takeM, dropM, zK, zA, zB, zN, zQ, zR, zO, zP, zT, zS, zU, leT, zH, pureL, pureA, natNe, zI, zG, TyD.isAgg, zJ, hrb0, hgb0, hpb0, hgg0, hmm0, t0, t2, t3, t5, t8, hSes, hlb, hlo, hlen] <;> rfl)); (first | (focus (simp; done)) | (intro c hc; obtain ⟨x, _, rfl⟩ := List.mem_map.1 hc; rfl)); ((first | rfl | simp (disch := omega) only [push_cast])); ((try dsimp only); (try simp only [zF, zE, zD, zC, zA, zB, rwI_len, rowT_len, spanT_len, bothL_len]); omega); ((try dsimp only); (try simp only [zF, zE, zD, zC, zA, zB, rwI_len, rowT_len, spanT_len, bothL_len]); omega))

  refine AW.loop (fun n s => ∃ (k : Nat) (rest : List Lk), n = rest.length ∧ (LA.drop k = rest) ∧ (J (LA.take k) s.H) ∧ (k ≤ LA.length) ∧ nx + 10 ≤ s.nx ∧ s.tm 0 = .v (.func (.yield l) #[] #[]) ∧ s.tm 2 = .ptr gb 0 0 1 ∧ s.tm 3 = .ptr pb 0 0 1 ∧ s.tm 5 = .ptr nx 0 0 1 ∧ s.tm 155 = .ref (nx + 4) 0 LA.length ∧ s.tm 156 = ai LA.length ∧ s.tm 157 = ai k ∧ Pg.rowAt s.H nx = some { k := 12, es := [eSession r.s], ty := 26 } ∧ Pg.rowAt s.H (nx + 4) = some { k := 3, es := LA.map eLink, ty := 66, lo := lw }) (LA.length) ⟨0, LA, rfl, rfl, (by (try simp (disch := omega) only [push_cast, simprocAttr, natNe, zI, zG, TyD.isAgg, zJ, hrb0, hgb0, hpb0, hgg0, hmm0, t0, t2, t3, t5, t8, hSes, hlb, hlo, hlen]); (repeat (refine hJ.frame _ _ _ _ ?_ (by omega))); exact hj), (Nat.zero_le _), ?_, ?_, ?_, ?_, ?_, ?_, ?_, ?_, ?_, ?_⟩ ?_
  iterate 10 (first | (simp (disch := omega) only [push_cast, simprocAttr, natNe, zI, zG, TyD.isAgg, zJ, hrb0, hgb0, hpb0, hgg0, hmm0, t0, t2, t3, t5, t8, hSes, hlb, hlo, hlen] <;> first | rfl | omega) | omega)
  rintro n s ⟨k, rest, hn, hp0, hp1, hp2, hnl, hS⟩
  refine AW.fresh fun hfr => ?_
  obtain ⟨hrb, hgb, hpb, ⟨ga, gl, hgg⟩, hmm⟩ := hJ.sys _ _ hp1
  rcases rest with _ | ⟨x, rest⟩
  rotate_left
  · obtain ⟨hk, hg, hd', hl', hm, hx⟩ := drop_cons hp0 eLink []
    have hln : (LA.take k).length < 20000 := by rw [List.length_take]; omega
    repeat' first
      | apply AW.seq | apply AW.region | apply AW.ret | apply AW.block | apply AW.skip | apply AW.exit | apply AW.scope | apply AW.label | apply AWL.nil | apply D.nil
      | refine W.draw cx_mixed (by decide +kernel) ?_
      | ((first | (apply W.step cx_ok; decide) | (apply D.step cx_ok; decide; decide) | apply W.store cx_ok | (apply W.gS; rfl; decide) | (apply D.gS; rfl; decide; decide) | apply AW.cond | apply W.mapUpdate cx_ok); (simp (disch := (first | omega | (simp only [zE, zF, zD, zC, zA, zB, rwI_len, rowT_len, spanT_len, bothL_len]; omega))) only [push_cast, simprocAttr, takeM, dropM, zK, zA, zB, zN, zQ, zR, zO, zP, zT, zS, zU, leT, zH, pureL, pureA, natNe, zI, zG, TyD.isAgg, zJ, hS, hrb, hgb, hpb, hgg, hmm, hk, hg, hx, hfr] <;> rfl); all_goals try ((with_reducible intro hI); try first | (cases hI; done) | (simp only [INTS, zL] at hI; try first | (exfalso; omega) | (have hT : True := hI; clear hT hI))))
      | ((first | (apply W.gU; rfl; decide) | (apply D.gU; rfl; decide; decide)); (simp (disch := (first | omega | (simp only [zE, zF, zD, zC, zA, zB, rwI_len, rowT_len, spanT_len, bothL_len]; omega))) only [push_cast, simprocAttr, takeM, dropM, zK, zA, zB, zN, zQ, zR, zO, zP, zT, zS, zU, leT, zH, pureL, pureA, natNe, zI, zG, TyD.isAgg, zJ, hS, hrb, hgb, hpb, hgg, hmm, hk, hg, hx, hfr] <;> rfl))
      | (refine W.makeMap cx_ok (by simp only [push_cast, simprocAttr] <;> rfl) (by decide) ?_)
      | (apply W.append cx_ok; decide; rfl; rfl; rfl; decide; (iterate 3 (simp (disch := (first | omega | (simp only [zE, zF, zD, zC, zA, zB, rwI_len, rowT_len, spanT_len, bothL_len]; omega))) only [push_cast, simprocAttr, takeM, dropM, zK, zA, zB, zN, zQ, zR, zO, zP, zT, zS, zU, leT, zH, pureL, pureA, natNe, zI, zG, TyD.isAgg, zJ, hS, hrb, hgb, hpb, hgg, hmm, hk, hg, hx, hfr] <;> rfl)); (first | (focus (simp; done)) | (intro c hc; obtain ⟨x, _, rfl⟩ := List.mem_map.1 hc; rfl)); ((first | rfl | simp (disch := omega) only [push_cast])); ((try dsimp only); (try simp only [zF, zE, zD, zC, zA, zB, rwI_len, rowT_len, spanT_len, bothL_len]); omega); ((try dsimp only); (try simp only [zF, zE, zD, zC, zA, zB, rwI_len, rowT_len, spanT_len, bothL_len]); omega))

    refine W.yield (by decide) (by simp (disch := omega) only [push_cast, simprocAttr, natNe, zI, zG, TyD.isAgg, zJ, hS, hrb, hgb, hpb, hgg, hmm, hk, hg, hx, hfr] <;> rfl) (va := [.agg (eLink x)]) (by simp (disch := omega) only [push_cast, simprocAttr, natNe, zI, zG, TyD.isAgg, zJ, hS, hrb, hgb, hpb, hgg, hmm, hk, hg, hx, hfr] <;> rfl) (hJ.y (LA.take k) _ _ x (by (try simp (disch := omega) only [push_cast, simprocAttr, natNe, zI, zG, TyD.isAgg, zJ, hS, hrb, hgb, hpb, hgg, hmm, hk, hg, hx, hfr]); (repeat (refine hJ.frame _ _ _ _ ?_ (by omega))); exact hp1) (show n0 ≤ s.nx + 1 by omega) hln) ?_
    rintro _ H2 nx2 ⟨rfl, hJ2, hn2, hf2⟩
    replace hn2 : s.nx + 1 ≤ nx2 := hn2
    try simp only [List.append_assoc, List.cons_append, List.nil_append] at hJ2
    have g1 : Pg.rowAt H2 nx = some { k := 12, es := [eSession r.s], ty := 26 } := (rowAt_eqH (hf2 nx (by omega) (show nx < s.nx + 1 by omega))).trans (by simp (disch := omega) only [push_cast, simprocAttr, natNe, zI, zG, TyD.isAgg, zJ, hS] <;> rfl)
    have g2 : Pg.rowAt H2 (nx + 4) = some { k := 3, es := LA.map eLink, ty := 66, lo := lw } := (rowAt_eqH (hf2 (nx + 4) (by omega) (show nx + 4 < s.nx + 1 by omega))).trans (by simp (disch := omega) only [push_cast, simprocAttr, natNe, zI, zG, TyD.isAgg, zJ, hS] <;> rfl)
    repeat' first
      | apply AW.seq | apply AW.region | apply AW.ret | apply AW.block | apply AW.skip | apply AW.exit | apply AW.scope | apply AW.label | apply AWL.nil | apply D.nil
      | refine W.draw cx_mixed (by decide +kernel) ?_
      | ((first | (apply W.step cx_ok; decide) | (apply D.step cx_ok; decide; decide) | apply W.store cx_ok | (apply W.gS; rfl; decide) | (apply D.gS; rfl; decide; decide) | apply AW.cond | apply W.mapUpdate cx_ok); (simp (disch := (first | omega | (simp only [zE, zF, zD, zC, zA, zB, rwI_len, rowT_len, spanT_len, bothL_len]; omega))) only [push_cast, simprocAttr, takeM, dropM, zK, zA, zB, zN, zQ, zR, zO, zP, zT, zS, zU, leT, zH, pureL, pureA, natNe, zI, zG, TyD.isAgg, zJ, hS, hk, hg, hx, g1, g2] <;> rfl); all_goals try ((with_reducible intro hI); try first | (cases hI; done) | (simp only [INTS, zL] at hI; try first | (exfalso; omega) | (have hT : True := hI; clear hT hI))))
      | ((first | (apply W.gU; rfl; decide) | (apply D.gU; rfl; decide; decide)); (simp (disch := (first | omega | (simp only [zE, zF, zD, zC, zA, zB, rwI_len, rowT_len, spanT_len, bothL_len]; omega))) only [push_cast, simprocAttr, takeM, dropM, zK, zA, zB, zN, zQ, zR, zO, zP, zT, zS, zU, leT, zH, pureL, pureA, natNe, zI, zG, TyD.isAgg, zJ, hS, hk, hg, hx, g1, g2] <;> rfl))
      | (refine W.makeMap cx_ok (by simp only [push_cast, simprocAttr] <;> rfl) (by decide) ?_)
      | (apply W.append cx_ok; decide; rfl; rfl; rfl; decide; (iterate 3 (simp (disch := (first | omega | (simp only [zE, zF, zD, zC, zA, zB, rwI_len, rowT_len, spanT_len, bothL_len]; omega))) only [push_cast, simprocAttr, takeM, dropM, zK, zA, zB, zN, zQ, zR, zO, zP, zT, zS, zU, leT, zH, pureL, pureA, natNe, zI, zG, TyD.isAgg, zJ, hS, hk, hg, hx, g1, g2] <;> rfl)); (first | (focus (simp; done)) | (intro c hc; obtain ⟨x, _, rfl⟩ := List.mem_map.1 hc; rfl)); ((first | rfl | simp (disch := omega) only [push_cast])); ((try dsimp only); (try simp only [zF, zE, zD, zC, zA, zB, rwI_len, rowT_len, spanT_len, bothL_len]); omega); ((try dsimp only); (try simp only [zF, zE, zD, zC, zA, zB, rwI_len, rowT_len, spanT_len, bothL_len]); omega))

    all_goals (refine ⟨rest.length, ?_, k + 1, rest, rfl, hd', (by rw [take_snoc hp0]; exact (by (try simp (disch := omega) only [push_cast, simprocAttr, natNe, zI, zG, TyD.isAgg, zJ]); (repeat (refine hJ.frame _ _ _ _ ?_ (by omega))); exact hJ2)), (by omega), ?_, ?_, ?_, ?_, ?_, ?_, ?_, ?_, ?_, ?_⟩; ((simp only [List.length_cons] at *; omega)); all_goals first | (simp (disch := omega) only [push_cast, simprocAttr, hS, natNe, zI, zG, TyD.isAgg, zJ, hk, g1, g2] <;> first | rfl | omega) | omega)
  have hk := drop_nil hp0
  have hkl : LA.take k = LA := List.take_of_length_le (List.drop_eq_nil_iff.1 hp0)
  rw [hkl] at hp1
  repeat' first
    | apply AW.seq | apply AW.region | apply AW.ret | apply AW.block | apply AW.skip | apply AW.exit | apply AW.scope | apply AW.label | apply AWL.nil | apply D.nil
    | refine W.draw cx_mixed (by decide +kernel) ?_
    | ((first | (apply W.step cx_ok; decide) | (apply D.step cx_ok; decide; decide) | apply W.store cx_ok | (apply W.gS; rfl; decide) | (apply D.gS; rfl; decide; decide) | apply AW.cond | apply W.mapUpdate cx_ok); (simp (disch := (first | omega | (simp only [zE, zF, zD, zC, zA, zB, rwI_len, rowT_len, spanT_len, bothL_len]; omega))) only [push_cast, simprocAttr, takeM, dropM, zK, zA, zB, zN, zQ, zR, zO, zP, zT, zS, zU, leT, zH, pureL, pureA, natNe, zI, zG, TyD.isAgg, zJ, hS, hrb, hgb, hpb, hgg, hmm, hk] <;> rfl); all_goals try ((with_reducible intro hI); try first | (cases hI; done) | (simp only [INTS, zL] at hI; try first | (exfalso; omega) | (have hT : True := hI; clear hT hI))))
    | ((first | (apply W.gU; rfl; decide) | (apply D.gU; rfl; decide; decide)); (simp (disch := (first | omega | (simp only [zE, zF, zD, zC, zA, zB, rwI_len, rowT_len, spanT_len, bothL_len]; omega))) only [push_cast, simprocAttr, takeM, dropM, zK, zA, zB, zN, zQ, zR, zO, zP, zT, zS, zU, leT, zH, pureL, pureA, natNe, zI, zG, TyD.isAgg, zJ, hS, hrb, hgb, hpb, hgg, hmm, hk] <;> rfl))
    | (refine W.makeMap cx_ok (by simp only [push_cast, simprocAttr] <;> rfl) (by decide) ?_)
    | (apply W.append cx_ok; decide; rfl; rfl; rfl; decide; (iterate 3 (simp (disch := (first | omega | (simp only [zE, zF, zD, zC, zA, zB, rwI_len, rowT_len, spanT_len, bothL_len]; omega))) only [push_cast, simprocAttr, takeM, dropM, zK, zA, zB, zN, zQ, zR, zO, zP, zT, zS, zU, leT, zH, pureL, pureA, natNe, zI, zG, TyD.isAgg, zJ, hS, hrb, hgb, hpb, hgg, hmm, hk] <;> rfl)); (first | (focus (simp; done)) | (intro c hc; obtain ⟨x, _, rfl⟩ := List.mem_map.1 hc; rfl)); ((first | rfl | simp (disch := omega) only [push_cast])); ((try dsimp only); (try simp only [zF, zE, zD, zC, zA, zB, rwI_len, rowT_len, spanT_len, bothL_len]); omega); ((try dsimp only); (try simp only [zF, zE, zD, zC, zA, zB, rwI_len, rowT_len, spanT_len, bothL_len]); omega))

  refine AW.loop (fun n s => ∃ (k : Nat) (dn : List Lk) (rest : List Int), n = rest.length ∧ (PL.drop k = rest) ∧ (dn ++ pairsL r.s (3 + r.strikes.length + k) rest = RES) ∧ (k ≤ PL.length) ∧ (J dn s.H) ∧ nx + 10 ≤ s.nx ∧ s.tm 0 = .v (.func (.yield l) #[] #[]) ∧ s.tm 2 = .ptr gb 0 0 1 ∧ s.tm 3 = .ptr pb 0 0 1 ∧ s.tm 5 = .ptr nx 0 0 1 ∧ s.tm 166 = lInt PL ∧ s.tm 167 = ai PL.length ∧ s.tm 168 = ai k ∧ Pg.rowAt s.H nx = some { k := 12, es := [eSession r.s], ty := 26 }) (PL.length) ⟨0, LA, PL, rfl, rfl, (by rw [hRA]; rfl), (Nat.zero_le _), (by (try simp (disch := omega) only [push_cast, simprocAttr, natNe, zI, zG, TyD.isAgg, zJ, hS]); (repeat (refine hJ.frame _ _ _ _ ?_ (by omega))); exact hp1), ?_, ?_, ?_, ?_, ?_, ?_, ?_, ?_, ?_⟩ ?_
  iterate 9 (first | (simp (disch := omega) only [push_cast, simprocAttr, natNe, zI, zG, TyD.isAgg, zJ, hrb, hgb, hpb, hgg, hmm, hS, hk] <;> first | rfl | omega) | omega)
  rintro n1 s1 ⟨k1, dn1, rest1, hn1, hp01, hp11, hp21, hp31, hnl1, hS1⟩
  refine AW.fresh fun hfr1 => ?_
  obtain ⟨hrb1, hgb1, hpb1, ⟨ga1, gl1, hgg1⟩, hmm1⟩ := hJ.sys _ _ hp31
  rcases rest1 with _ | ⟨x, rest1⟩
  · have hk1 := drop_nil hp01
    simp only [pairsL, List.append_nil] at hp11
    rw [hp11] at hp31
    repeat' first
      | apply AW.seq | apply AW.region | apply AW.ret | apply AW.block | apply AW.skip | apply AW.exit | apply AW.scope | apply AW.label | apply AWL.nil | apply D.nil
      | refine W.draw cx_mixed (by decide +kernel) ?_
      | ((first | (apply W.step cx_ok; decide) | (apply D.step cx_ok; decide; decide) | apply W.store cx_ok | (apply W.gS; rfl; decide) | (apply D.gS; rfl; decide; decide) | apply AW.cond | apply W.mapUpdate cx_ok); (simp (disch := (first | omega | (simp only [zE, zF, zD, zC, zA, zB, rwI_len, rowT_len, spanT_len, bothL_len]; omega))) only [push_cast, simprocAttr, takeM, dropM, zK, zA, zB, zN, zQ, zR, zO, zP, zT, zS, zU, leT, zH, pureL, pureA, natNe, zI, zG, TyD.isAgg, zJ, hS1, hrb1, hgb1, hpb1, hgg1, hmm1, hk1] <;> rfl); all_goals try ((with_reducible intro hI); try first | (cases hI; done) | (simp only [INTS, zL] at hI; try first | (exfalso; omega) | (have hT : True := hI; clear hT hI))))
      | ((first | (apply W.gU; rfl; decide) | (apply D.gU; rfl; decide; decide)); (simp (disch := (first | omega | (simp only [zE, zF, zD, zC, zA, zB, rwI_len, rowT_len, spanT_len, bothL_len]; omega))) only [push_cast, simprocAttr, takeM, dropM, zK, zA, zB, zN, zQ, zR, zO, zP, zT, zS, zU, leT, zH, pureL, pureA, natNe, zI, zG, TyD.isAgg, zJ, hS1, hrb1, hgb1, hpb1, hgg1, hmm1, hk1] <;> rfl))
      | (refine W.makeMap cx_ok (by simp only [push_cast, simprocAttr] <;> rfl) (by decide) ?_)
      | (apply W.append cx_ok; decide; rfl; rfl; rfl; decide; (iterate 3 (simp (disch := (first | omega | (simp only [zE, zF, zD, zC, zA, zB, rwI_len, rowT_len, spanT_len, bothL_len]; omega))) only [push_cast, simprocAttr, takeM, dropM, zK, zA, zB, zN, zQ, zR, zO, zP, zT, zS, zU, leT, zH, pureL, pureA, natNe, zI, zG, TyD.isAgg, zJ, hS1, hrb1, hgb1, hpb1, hgg1, hmm1, hk1] <;> rfl)); (first | (focus (simp; done)) | (intro c hc; obtain ⟨x, _, rfl⟩ := List.mem_map.1 hc; rfl)); ((first | rfl | simp (disch := omega) only [push_cast])); ((try dsimp only); (try simp only [zF, zE, zD, zC, zA, zB, rwI_len, rowT_len, spanT_len, bothL_len]); omega); ((try dsimp only); (try simp only [zF, zE, zD, zC, zA, zB, rwI_len, rowT_len, spanT_len, bothL_len]); omega))

    all_goals
      ((first | apply W.retX | apply W.endX); (simp (disch := omega) only [push_cast, simprocAttr, natNe, zI, zG, TyD.isAgg, zJ, hS1, hrb1, hgb1, hpb1, hgg1, hmm1, hk1] <;> rfl); exact hQ _ _ (by (try simp (disch := omega) only [push_cast, simprocAttr, natNe, zI, zG, TyD.isAgg, zJ, hS1]); (repeat (refine hJ.frame _ _ _ _ ?_ (by omega))); exact hp31) (by (try (simp (disch := omega) only [push_cast, simprocAttr, natNe, zI, zG, TyD.isAgg, zJ, hS1])); omega))
  · obtain ⟨hk1, hg1, hd1, hl1, hm1, hx1⟩ := drop_cons hp01 eInt []
    have hax := hat k1 x (by omega) (drop_at hp01)
    obtain ⟨bx1, bx2⟩ := hbd x hm1
    have hlt := drop_lt hso hp01
    have hrl : (PL.length : Int) - ((k1 : Int) + 1) = (rest1.length : Int) := by have := congrArg List.length hp01; simp only [List.length_drop, List.length_cons] at this; omega
    have hea : (∀ e ∈ PL.map eInt, e.length = 1) = True := eq_true fun e he => by obtain ⟨y, _, rfl⟩ := List.mem_map.1 he; rfl
    have hkl : k1 + 1 ≤ PL.length := by omega
    have hkn : ((k1 : Int) + 1).toNat = k1 + 1 := by omega
    have hk0 : (0 : Int) ≤ (k1 : Int) + 1 := by omega
    have hrm : (PL.map eInt).drop (k1 + 1) = rest1.map eInt := by rw [← List.map_drop, drop_succ hp01]
    repeat' first
      | apply AW.seq | apply AW.region | apply AW.ret | apply AW.block | apply AW.skip | apply AW.exit | apply AW.scope | apply AW.label | apply AWL.nil | apply D.nil
      | refine W.draw cx_mixed (by decide +kernel) ?_
      | ((first | (apply W.step cx_ok; decide) | (apply D.step cx_ok; decide; decide) | apply W.store cx_ok | (apply W.gS; rfl; decide) | (apply D.gS; rfl; decide; decide) | apply AW.cond | apply W.mapUpdate cx_ok); (simp (disch := (first | omega | (simp only [zE, zF, zD, zC, zA, zB, rwI_len, rowT_len, spanT_len, bothL_len]; omega))) only [push_cast, simprocAttr, takeM, dropM, zK, zA, zB, zN, zQ, zR, zO, zP, zT, zS, zU, leT, zH, pureL, pureA, natNe, zI, zG, TyD.isAgg, zJ, hS1, hrb1, hgb1, hpb1, hgg1, hmm1, hk1, hg1, hx1, hfr1, hrl, hrm, hea, hkl, hkn, hk0] <;> rfl); all_goals try ((with_reducible intro hI); try first | (cases hI; done) | (simp only [INTS, zL] at hI; try first | (exfalso; omega) | (have hT : True := hI; clear hT hI))))
      | ((first | (apply W.gU; rfl; decide) | (apply D.gU; rfl; decide; decide)); (simp (disch := (first | omega | (simp only [zE, zF, zD, zC, zA, zB, rwI_len, rowT_len, spanT_len, bothL_len]; omega))) only [push_cast, simprocAttr, takeM, dropM, zK, zA, zB, zN, zQ, zR, zO, zP, zT, zS, zU, leT, zH, pureL, pureA, natNe, zI, zG, TyD.isAgg, zJ, hS1, hrb1, hgb1, hpb1, hgg1, hmm1, hk1, hg1, hx1, hfr1, hrl, hrm, hea, hkl, hkn, hk0] <;> rfl))
      | (refine W.makeMap cx_ok (by simp only [push_cast, simprocAttr] <;> rfl) (by decide) ?_)
      | (apply W.append cx_ok; decide; rfl; rfl; rfl; decide; (iterate 3 (simp (disch := (first | omega | (simp only [zE, zF, zD, zC, zA, zB, rwI_len, rowT_len, spanT_len, bothL_len]; omega))) only [push_cast, simprocAttr, takeM, dropM, zK, zA, zB, zN, zQ, zR, zO, zP, zT, zS, zU, leT, zH, pureL, pureA, natNe, zI, zG, TyD.isAgg, zJ, hS1, hrb1, hgb1, hpb1, hgg1, hmm1, hk1, hg1, hx1, hfr1, hrl, hrm, hea, hkl, hkn, hk0] <;> rfl)); (first | (focus (simp; done)) | (intro c hc; obtain ⟨x, _, rfl⟩ := List.mem_map.1 hc; rfl)); ((first | rfl | simp (disch := omega) only [push_cast])); ((try dsimp only); (try simp only [zF, zE, zD, zC, zA, zB, rwI_len, rowT_len, spanT_len, bothL_len]); omega); ((try dsimp only); (try simp only [zF, zE, zD, zC, zA, zB, rwI_len, rowT_len, spanT_len, bothL_len]); omega))

    refine AW.loop (fun n s => ∃ (j : Nat) (dn : List Lk) (ys : List Int), n = ys.length ∧ (rest1.drop j = ys) ∧ (dn ++ (pairL r.s (3 + r.strikes.length + k1) x (3 + r.strikes.length + k1 + 1 + j) ys ++ pairsL r.s (3 + r.strikes.length + k1 + 1) rest1) = RES) ∧ (J dn s.H) ∧ s1.nx + 1 ≤ s.nx ∧ s.tm 0 = .v (.func (.yield l) #[] #[]) ∧ s.tm 2 = .ptr gb 0 0 1 ∧ s.tm 3 = .ptr pb 0 0 1 ∧ s.tm 5 = .ptr nx 0 0 1 ∧ s.tm 166 = lInt PL ∧ s.tm 167 = ai PL.length ∧ s.tm 168 = ai k1 ∧ s.tm 24 = .ptr s1.nx 0 0 1 ∧ s.tm 176 = lInt rest1 ∧ s.tm 177 = ai rest1.length ∧ s.tm 178 = ai j ∧ Pg.rowAt s.H nx = some { k := 12, es := [eSession r.s], ty := 26 } ∧ Pg.rowAt s.H s1.nx = some { k := 1, es := [[ai x]], ty := 3 }) (rest1.length) ⟨0, dn1, rest1, rfl, rfl, hp11, (by (try simp (disch := omega) only [push_cast, simprocAttr, natNe, zI, zG, TyD.isAgg, zJ, hS1, hrb1, hgb1, hpb1, hgg1, hmm1, hk1, hg1, hx1, hfr1, hrl, hrm, hea, hkl, hkn, hk0, zS, zT]); (repeat (refine hJ.frame _ _ _ _ ?_ (by omega))); exact hp31), ?_, ?_, ?_, ?_, ?_, ?_, ?_, ?_, ?_, ?_, ?_, ?_, ?_, ?_⟩ ?_
    iterate 14 (first | (simp (disch := omega) only [push_cast, simprocAttr, natNe, zI, zG, TyD.isAgg, zJ, hS1, hrb1, hgb1, hpb1, hgg1, hmm1, hk1, hg1, hx1, hfr1, hrl, hrm, hea, hkl, hkn, hk0, zS, zT] <;> first | rfl | omega) | omega)
    rintro n2 s2 ⟨j2, dn2, ys2, hn2, hp02, hp12, hp22, hnl2, hS2⟩
    refine AW.fresh fun hfr2 => ?_
    obtain ⟨hrb2, hgb2, hpb2, ⟨ga2, gl2, hgg2⟩, hmm2⟩ := hJ.sys _ _ hp22
    rcases ys2 with _ | ⟨y, ys2⟩
    · have hk2' := drop_nil hp02
      simp only [pairL, List.nil_append] at hp12
      repeat' first
        | apply AW.seq | apply AW.region | apply AW.ret | apply AW.block | apply AW.skip | apply AW.exit | apply AW.scope | apply AW.label | apply AWL.nil | apply D.nil
        | refine W.draw cx_mixed (by decide +kernel) ?_
        | ((first | (apply W.step cx_ok; decide) | (apply D.step cx_ok; decide; decide) | apply W.store cx_ok | (apply W.gS; rfl; decide) | (apply D.gS; rfl; decide; decide) | apply AW.cond | apply W.mapUpdate cx_ok); (simp (disch := (first | omega | (simp only [zE, zF, zD, zC, zA, zB, rwI_len, rowT_len, spanT_len, bothL_len]; omega))) only [push_cast, simprocAttr, takeM, dropM, zK, zA, zB, zN, zQ, zR, zO, zP, zT, zS, zU, leT, zH, pureL, pureA, natNe, zI, zG, TyD.isAgg, zJ, hS2, hrb2, hgb2, hpb2, hgg2, hmm2, hk2'] <;> rfl); all_goals try ((with_reducible intro hI); try first | (cases hI; done) | (simp only [INTS, zL] at hI; try first | (exfalso; omega) | (have hT : True := hI; clear hT hI))))
        | ((first | (apply W.gU; rfl; decide) | (apply D.gU; rfl; decide; decide)); (simp (disch := (first | omega | (simp only [zE, zF, zD, zC, zA, zB, rwI_len, rowT_len, spanT_len, bothL_len]; omega))) only [push_cast, simprocAttr, takeM, dropM, zK, zA, zB, zN, zQ, zR, zO, zP, zT, zS, zU, leT, zH, pureL, pureA, natNe, zI, zG, TyD.isAgg, zJ, hS2, hrb2, hgb2, hpb2, hgg2, hmm2, hk2'] <;> rfl))
        | (refine W.makeMap cx_ok (by simp only [push_cast, simprocAttr] <;> rfl) (by decide) ?_)
        | (apply W.append cx_ok; decide; rfl; rfl; rfl; decide; (iterate 3 (simp (disch := (first | omega | (simp only [zE, zF, zD, zC, zA, zB, rwI_len, rowT_len, spanT_len, bothL_len]; omega))) only [push_cast, simprocAttr, takeM, dropM, zK, zA, zB, zN, zQ, zR, zO, zP, zT, zS, zU, leT, zH, pureL, pureA, natNe, zI, zG, TyD.isAgg, zJ, hS2, hrb2, hgb2, hpb2, hgg2, hmm2, hk2'] <;> rfl)); (first | (focus (simp; done)) | (intro c hc; obtain ⟨x, _, rfl⟩ := List.mem_map.1 hc; rfl)); ((first | rfl | simp (disch := omega) only [push_cast])); ((try dsimp only); (try simp only [zF, zE, zD, zC, zA, zB, rwI_len, rowT_len, spanT_len, bothL_len]); omega); ((try dsimp only); (try simp only [zF, zE, zD, zC, zA, zB, rwI_len, rowT_len, spanT_len, bothL_len]); omega))

      all_goals (refine ⟨rest1.length, ?_, k1 + 1, dn2, rest1, rfl, (drop_succ hp01), hp12, (by omega), (by (try simp (disch := omega) only [push_cast, simprocAttr, natNe, zI, zG, TyD.isAgg, zJ, hS2]); (repeat (refine hJ.frame _ _ _ _ ?_ (by omega))); exact hp22), ?_, ?_, ?_, ?_, ?_, ?_, ?_, ?_, ?_⟩; ((simp only [List.length_cons] at *; omega)); all_goals first | (simp (disch := omega) only [push_cast, simprocAttr, hS2, natNe, zI, zG, TyD.isAgg, zJ, hk2'] <;> first | rfl | omega) | omega)
    · obtain ⟨hk2', hg2, hd2, hl2, hm2, hx2⟩ := drop_cons hp02 eInt []
      have hym : y ∈ rest1 := hm2
      have hxy := hlt y hym
      obtain ⟨by1, by2⟩ := hbd y (drop_mem (drop_succ hp01) y hym)
      have hjl : k1 + 1 + j2 < PL.length := by omega
      have hya := hat (k1 + 1 + j2) y hjl (drop_at (by rw [← List.drop_drop, drop_succ hp01]; exact hp02))
      obtain ⟨A, hA⟩ : ∃ z, 3 + r.strikes.length + k1 = z := ⟨_, rfl⟩
      obtain ⟨B, hB⟩ : ∃ z, 3 + r.strikes.length + k1 + 1 + j2 = z := ⟨_, rfl⟩
      have hax' : atP 4 x (nodesR r more) = (A : Int) := by rw [hax]; omega
      have hay : atP 4 y (nodesR r more) = (B : Int) := by rw [hya]; omega
      have hle := leastR_bound r.s x y hv.r bx1 (by omega) by2
      have z1 : (r.s.rate.hi = 0) = False := eq_false (by omega)
      have d1 := div_bound (n := (y - x) * 1000000) (d := r.s.rate.hi) (by omega) (by omega) (by omega)
      have d2 := div_bound (n := (y - x) * 1000000 + r.s.rate.lo - 1) (d := r.s.rate.lo) (by omega) (by omega) (by omega)
      have hLR : leastR r.s x y = _ := addS_sum x y r.s.stops _
      have hce := ceiling_ok ((y - x) * 1000000) r.s.rate.lo (by omega) (by omega)
      have hsh := sumHi_ok r.s.stops x y hns4 hst
      have hsl := sumLo_ok r.s.stops x y hns4 hst
      obtain ⟨Q1, hQ1⟩ : ∃ q, (y - x) * 1000000 / r.s.rate.hi = q := ⟨_, rfl⟩
      obtain ⟨Q2, hQ2⟩ : ∃ q, ((y - x) * 1000000 + r.s.rate.lo - 1) / r.s.rate.lo = q := ⟨_, rfl⟩
      obtain ⟨SH, hSH⟩ : ∃ q, sumS (·.secs.hi) x y r.s.stops 0 = q := ⟨_, rfl⟩
      obtain ⟨SL, hSL⟩ : ∃ q, sumS (·.secs.lo) x y r.s.stops 0 = q := ⟨_, rfl⟩
      rw [hQ1] at d1 hLR
      rw [hQ2] at d2 hLR hce
      rw [hSH] at hsh hLR
      rw [hSL] at hsl hLR
      dsimp only at hLR
      have hpe : pairL r.s (3 + r.strikes.length + k1) x (3 + r.strikes.length + k1 + 1 + j2) (y :: ys2) = ⟨A, B, Q2 + SH⟩ :: ⟨B, A, -(Q1 + SL)⟩ :: pairL r.s (3 + r.strikes.length + k1) x (3 + r.strikes.length + k1 + 1 + (j2 + 1)) ys2 := by
        subst hB; subst hA; simp only [pairL, hLR]; rfl
      rw [hpe] at hp12
      rw [hLR] at hle
      dsimp only at hle
      obtain ⟨e1, e2, e3, e4⟩ := hle
      have hdl : dn2.length + 2 ≤ 10000 := by have := congrArg List.length hp12; simp only [List.length_append, List.length_cons] at this; omega
      repeat' first
        | ((first | (apply W.callr cx_ok; decide) | (apply D.callr cx_ok; decide; decide)); (iterate 2 (simp (disch := (first | omega | (simp only [zE, zF, zD, zC, zA, zB, rwI_len, rowT_len, spanT_len, bothL_len]; omega))) only [push_cast, simprocAttr, takeM, dropM, zK, zA, zB, zN, zQ, zR, zO, zP, zT, zS, zU, leT, zH, pureL, pureA, natNe, zI, zG, TyD.isAgg, zJ, hS2, hrb2, hgb2, hpb2, hgg2, hmm2, hk2', hg2, hx2, hfr2, hax', hay, z1, hQ1, yD] <;> rfl)); (exact at_r (nodesR r more) _ _ (by simp (disch := (first | omega | (simp only [zE, zF, zD, zC, zA, zB, rwI_len, rowT_len, spanT_len, bothL_len]; omega))) only [push_cast, simprocAttr, takeM, dropM, zK, zA, zB, zN, zQ, zR, zO, zP, zT, zS, zU, leT, zH, pureL, pureA, natNe, zI, zG, TyD.isAgg, zJ, hS2, hrb2, hgb2, hpb2, hgg2, hmm2, hk2', hg2, hx2, hfr2, hax', hay, z1, hQ1, yD] <;> rfl) (by simp (disch := (first | omega | (simp only [zE, zF, zD, zC, zA, zB, rwI_len, rowT_len, spanT_len, bothL_len]; omega))) only [push_cast, simprocAttr, takeM, dropM, zK, zA, zB, zN, zQ, zR, zO, zP, zT, zS, zU, leT, zH, pureL, pureA, natNe, zI, zG, TyD.isAgg, zJ, hS2, hrb2, hgb2, hpb2, hgg2, hmm2, hk2', hg2, hx2, hfr2, hax', hay, z1, hQ1, yD] <;> rfl)))
        | apply AW.seq | apply AW.region | apply AW.ret | apply AW.block | apply AW.skip | apply AW.exit | apply AW.scope | apply AW.label | apply AWL.nil | apply D.nil
        | refine AW.draw (id := 44) cx_mixed [10] [] [] 0 (by decide +kernel) ?_
        | refine AW.draw (id := 45) cx_mixed [10] [] [] 0 (by decide +kernel) ?_
        | refine AW.draw (id := 46) cx_mixed [7] [] [] 0 (by decide +kernel) ?_
        | refine W.draw cx_mixed (by decide +kernel) ?_
        | ((first | (apply W.step cx_ok; decide) | (apply D.step cx_ok; decide; decide) | apply W.store cx_ok | (apply W.gS; rfl; decide) | (apply D.gS; rfl; decide; decide) | apply AW.cond | apply W.mapUpdate cx_ok); (simp (disch := (first | omega | (simp only [zE, zF, zD, zC, zA, zB, rwI_len, rowT_len, spanT_len, bothL_len]; omega))) only [push_cast, simprocAttr, takeM, dropM, zK, zA, zB, zN, zQ, zR, zO, zP, zT, zS, zU, leT, zH, pureL, pureA, natNe, zI, zG, TyD.isAgg, zJ, hS2, hrb2, hgb2, hpb2, hgg2, hmm2, hk2', hg2, hx2, hfr2, hax', hay, z1, hQ1, yD] <;> rfl); all_goals try ((with_reducible intro hI); try first | (cases hI; done) | (simp only [INTS, zL] at hI; try first | (exfalso; omega) | (have hT : True := hI; clear hT hI))))
        | ((first | (apply W.gU; rfl; decide) | (apply D.gU; rfl; decide; decide) | (apply D.store cx_ok; decide) | (apply D.stept cx_ok; decide; decide) | (apply D.mapUpdate cx_ok; decide) | (apply D.stepm cx_ok; decide; decide)); (simp (disch := (first | omega | (simp only [zE, zF, zD, zC, zA, zB, rwI_len, rowT_len, spanT_len, bothL_len]; omega))) only [push_cast, simprocAttr, takeM, dropM, zK, zA, zB, zN, zQ, zR, zO, zP, zT, zS, zU, leT, zH, pureL, pureA, natNe, zI, zG, TyD.isAgg, zJ, hS2, hrb2, hgb2, hpb2, hgg2, hmm2, hk2', hg2, hx2, hfr2, hax', hay, z1, hQ1, yD] <;> rfl); try first | exact .inl rfl | exact .inr (by simp))
        | (refine W.makeMap cx_ok (by simp only [push_cast, simprocAttr] <;> rfl) (by decide) ?_)
        | ((apply D.alloct cx_ok; decide; decide); (simp (disch := (first | omega | (simp only [zE, zF, zD, zC, zA, zB, rwI_len, rowT_len, spanT_len, bothL_len]; omega))) only [push_cast, simprocAttr, takeM, dropM, zK, zA, zB, zN, zQ, zR, zO, zP, zT, zS, zU, leT, zH, pureL, pureA, natNe, zI, zG, TyD.isAgg, zJ, hS2, hrb2, hgb2, hpb2, hgg2, hmm2, hk2', hg2, hx2, hfr2, hax', hay, z1, hQ1, yD] <;> rfl); first | exact .inl rfl | exact .inr (by simp))
        | (apply W.append cx_ok; decide; rfl; rfl; rfl; decide; (iterate 3 (simp (disch := (first | omega | (simp only [zE, zF, zD, zC, zA, zB, rwI_len, rowT_len, spanT_len, bothL_len]; omega))) only [push_cast, simprocAttr, takeM, dropM, zK, zA, zB, zN, zQ, zR, zO, zP, zT, zS, zU, leT, zH, pureL, pureA, natNe, zI, zG, TyD.isAgg, zJ, hS2, hrb2, hgb2, hpb2, hgg2, hmm2, hk2', hg2, hx2, hfr2, hax', hay, z1, hQ1, yD] <;> rfl)); (first | (focus (simp; done)) | (intro c hc; obtain ⟨x, _, rfl⟩ := List.mem_map.1 hc; rfl)); ((first | rfl | simp (disch := omega) only [push_cast])); ((try dsimp only); (try simp only [zF, zE, zD, zC, zA, zB, rwI_len, rowT_len, spanT_len, bothL_len]); omega); ((try dsimp only); (try simp only [zF, zE, zD, zC, zA, zB, rwI_len, rowT_len, spanT_len, bothL_len]); omega))
        | ((first | (apply W.callv cx_ok; decide) | (apply D.callv cx_ok; decide; decide) | (apply D.callvt cx_ok; decide; decide)); (iterate 2 (simp (disch := (first | omega | (simp only [zE, zF, zD, zC, zA, zB, rwI_len, rowT_len, spanT_len, bothL_len]; omega))) only [push_cast, simprocAttr, takeM, dropM, zK, zA, zB, zN, zQ, zR, zO, zP, zT, zS, zU, leT, zH, pureL, pureA, natNe, zI, zG, TyD.isAgg, zJ, hS2, hrb2, hgb2, hpb2, hgg2, hmm2, hk2', hg2, hx2, hfr2, hax', hay, z1, hQ1, yD] <;> rfl)); (with_reducible first | exact hce | exact hsh | exact hsl); try first | rfl | (simp (disch := (first | omega | (simp only [zE, zF, zD, zC, zA, zB, rwI_len, rowT_len, spanT_len, bothL_len]; omega))) only [push_cast, simprocAttr, takeM, dropM, zK, zA, zB, zN, zQ, zR, zO, zP, zT, zS, zU, leT, zH, pureL, pureA, natNe, zI, zG, TyD.isAgg, zJ, hS2, hrb2, hgb2, hpb2, hgg2, hmm2, hk2', hg2, hx2, hfr2, hax', hay, z1, hQ1, yD] <;> rfl))

      refine W.yield (by decide) (by simp (disch := omega) only [push_cast, simprocAttr, natNe, zI, zG, TyD.isAgg, zJ, hS2, hrb2, hgb2, hpb2, hgg2, hmm2, hk2', hg2, hx2, hfr2, hax', hay, z1, hQ1, yD] <;> rfl) (va := [.agg (eLink ⟨A, B, Q2 + SH⟩)]) (by simp (disch := omega) only [push_cast, simprocAttr, natNe, zI, zG, TyD.isAgg, zJ, hS2, hrb2, hgb2, hpb2, hgg2, hmm2, hk2', hg2, hx2, hfr2, hax', hay, z1, hQ1, yD] <;> rfl) (hJ.y (dn2) _ _ ⟨A, B, Q2 + SH⟩ (by (try simp (disch := omega) only [push_cast, simprocAttr, natNe, zI, zG, TyD.isAgg, zJ, hS2, hrb2, hgb2, hpb2, hgg2, hmm2, hk2', hg2, hx2, hfr2, hax', hay, z1, hQ1, yD]); (repeat (refine hJ.frame _ _ _ _ ?_ (by omega))); exact hp22) (show n0 ≤ s2.nx + 1 by omega) (by omega)) ?_
      rintro _ H3 nx3 ⟨rfl, hJ3, hn3, hf3⟩
      replace hn3 : s2.nx + 1 ≤ nx3 := hn3
      try simp only [List.append_assoc, List.cons_append, List.nil_append] at hJ3
      have g1 : Pg.rowAt H3 nx = some { k := 12, es := [eSession r.s], ty := 26 } := (rowAt_eqH (hf3 nx (by omega) (show nx < s2.nx + 1 by omega))).trans (by simp (disch := omega) only [push_cast, simprocAttr, natNe, zI, zG, TyD.isAgg, zJ, hS2, hrb2, hgb2, hpb2, hgg2, hmm2, hk2', hg2, hx2, hfr2, hax', hay, z1, hQ1, yD] <;> rfl)
      have g2 : Pg.rowAt H3 s1.nx = some { k := 1, es := [[ai x]], ty := 3 } := (rowAt_eqH (hf3 s1.nx (by omega) (show s1.nx < s2.nx + 1 by omega))).trans (by simp (disch := omega) only [push_cast, simprocAttr, natNe, zI, zG, TyD.isAgg, zJ, hS2, hrb2, hgb2, hpb2, hgg2, hmm2, hk2', hg2, hx2, hfr2, hax', hay, z1, hQ1, yD] <;> rfl)
      repeat' first
        | apply AW.seq | apply AW.region | apply AW.ret | apply AW.block | apply AW.skip | apply AW.exit | apply AW.scope | apply AW.label | apply AWL.nil | apply D.nil
        | refine W.draw cx_mixed (by decide +kernel) ?_
        | ((first | (apply W.step cx_ok; decide) | (apply D.step cx_ok; decide; decide) | apply W.store cx_ok | (apply W.gS; rfl; decide) | (apply D.gS; rfl; decide; decide) | apply AW.cond | apply W.mapUpdate cx_ok); (simp (disch := (first | omega | (simp only [zE, zF, zD, zC, zA, zB, rwI_len, rowT_len, spanT_len, bothL_len]; omega))) only [push_cast, simprocAttr, takeM, dropM, zK, zA, zB, zN, zQ, zR, zO, zP, zT, zS, zU, leT, zH, pureL, pureA, natNe, zI, zG, TyD.isAgg, zJ, hS2, hrb2, hgb2, hpb2, hgg2, hmm2, hk2', hg2, hx2, hfr2, hax', hay, z1, hQ1, yD] <;> rfl); all_goals try ((with_reducible intro hI); try first | (cases hI; done) | (simp only [INTS, zL] at hI; try first | (exfalso; omega) | (have hT : True := hI; clear hT hI))))
        | ((first | (apply W.gU; rfl; decide) | (apply D.gU; rfl; decide; decide)); (simp (disch := (first | omega | (simp only [zE, zF, zD, zC, zA, zB, rwI_len, rowT_len, spanT_len, bothL_len]; omega))) only [push_cast, simprocAttr, takeM, dropM, zK, zA, zB, zN, zQ, zR, zO, zP, zT, zS, zU, leT, zH, pureL, pureA, natNe, zI, zG, TyD.isAgg, zJ, hS2, hrb2, hgb2, hpb2, hgg2, hmm2, hk2', hg2, hx2, hfr2, hax', hay, z1, hQ1, yD] <;> rfl))
        | (refine W.makeMap cx_ok (by simp only [push_cast, simprocAttr] <;> rfl) (by decide) ?_)
        | (apply W.append cx_ok; decide; rfl; rfl; rfl; decide; (iterate 3 (simp (disch := (first | omega | (simp only [zE, zF, zD, zC, zA, zB, rwI_len, rowT_len, spanT_len, bothL_len]; omega))) only [push_cast, simprocAttr, takeM, dropM, zK, zA, zB, zN, zQ, zR, zO, zP, zT, zS, zU, leT, zH, pureL, pureA, natNe, zI, zG, TyD.isAgg, zJ, hS2, hrb2, hgb2, hpb2, hgg2, hmm2, hk2', hg2, hx2, hfr2, hax', hay, z1, hQ1, yD] <;> rfl)); (first | (focus (simp; done)) | (intro c hc; obtain ⟨x, _, rfl⟩ := List.mem_map.1 hc; rfl)); ((first | rfl | simp (disch := omega) only [push_cast])); ((try dsimp only); (try simp only [zF, zE, zD, zC, zA, zB, rwI_len, rowT_len, spanT_len, bothL_len]); omega); ((try dsimp only); (try simp only [zF, zE, zD, zC, zA, zB, rwI_len, rowT_len, spanT_len, bothL_len]); omega))

      refine W.yield (by decide) (by simp (disch := omega) only [push_cast, simprocAttr, natNe, zI, zG, TyD.isAgg, zJ, hS2, hrb2, hgb2, hpb2, hgg2, hmm2, hk2', hg2, hx2, hfr2, hax', hay, z1, hQ1, yD] <;> rfl) (va := [.agg (eLink ⟨B, A, -(Q1 + SL)⟩)]) (by simp (disch := omega) only [push_cast, simprocAttr, natNe, zI, zG, TyD.isAgg, zJ, hS2, hrb2, hgb2, hpb2, hgg2, hmm2, hk2', hg2, hx2, hfr2, hax', hay, z1, hQ1, yD] <;> rfl) (hJ.y (dn2 ++ [⟨A, B, Q2 + SH⟩]) _ _ ⟨B, A, -(Q1 + SL)⟩ (by (try simp (disch := omega) only [push_cast, simprocAttr, natNe, zI, zG, TyD.isAgg, zJ, hS2, hrb2, hgb2, hpb2, hgg2, hmm2, hk2', hg2, hx2, hfr2, hax', hay, z1, hQ1, yD]); (repeat (refine hJ.frame _ _ _ _ ?_ (by omega))); exact hJ3) (show n0 ≤ nx3 by omega) (by simp only [List.length_append, List.length_cons, List.length_nil]; omega)) ?_
      rintro _ H4 nx4 ⟨rfl, hJ4, hn4, hf4⟩
      replace hn4 : nx3 ≤ nx4 := hn4
      try simp only [List.append_assoc, List.cons_append, List.nil_append] at hJ4
      have g3 : Pg.rowAt H4 nx = some { k := 12, es := [eSession r.s], ty := 26 } := (rowAt_eqH (hf4 nx (by omega) (show nx < nx3 by omega))).trans (by simp (disch := omega) only [push_cast, simprocAttr, natNe, zI, zG, TyD.isAgg, zJ, hS2, hrb2, hgb2, hpb2, hgg2, hmm2, hk2', hg2, hx2, hfr2, hax', hay, z1, hQ1, yD, g1] <;> rfl)
      have g4 : Pg.rowAt H4 s1.nx = some { k := 1, es := [[ai x]], ty := 3 } := (rowAt_eqH (hf4 s1.nx (by omega) (show s1.nx < nx3 by omega))).trans (by simp (disch := omega) only [push_cast, simprocAttr, natNe, zI, zG, TyD.isAgg, zJ, hS2, hrb2, hgb2, hpb2, hgg2, hmm2, hk2', hg2, hx2, hfr2, hax', hay, z1, hQ1, yD, g2] <;> rfl)
      repeat' first
        | apply AW.seq | apply AW.region | apply AW.ret | apply AW.block | apply AW.skip | apply AW.exit | apply AW.scope | apply AW.label | apply AWL.nil | apply D.nil
        | refine W.draw cx_mixed (by decide +kernel) ?_
        | ((first | (apply W.step cx_ok; decide) | (apply D.step cx_ok; decide; decide) | apply W.store cx_ok | (apply W.gS; rfl; decide) | (apply D.gS; rfl; decide; decide) | apply AW.cond | apply W.mapUpdate cx_ok); (simp (disch := (first | omega | (simp only [zE, zF, zD, zC, zA, zB, rwI_len, rowT_len, spanT_len, bothL_len]; omega))) only [push_cast, simprocAttr, takeM, dropM, zK, zA, zB, zN, zQ, zR, zO, zP, zT, zS, zU, leT, zH, pureL, pureA, natNe, zI, zG, TyD.isAgg, zJ, hS2, hrb2, hgb2, hpb2, hgg2, hmm2, hk2', hg2, hx2, hfr2, hax', hay, z1, hQ1, yD, g3, g4] <;> rfl); all_goals try ((with_reducible intro hI); try first | (cases hI; done) | (simp only [INTS, zL] at hI; try first | (exfalso; omega) | (have hT : True := hI; clear hT hI))))
        | ((first | (apply W.gU; rfl; decide) | (apply D.gU; rfl; decide; decide)); (simp (disch := (first | omega | (simp only [zE, zF, zD, zC, zA, zB, rwI_len, rowT_len, spanT_len, bothL_len]; omega))) only [push_cast, simprocAttr, takeM, dropM, zK, zA, zB, zN, zQ, zR, zO, zP, zT, zS, zU, leT, zH, pureL, pureA, natNe, zI, zG, TyD.isAgg, zJ, hS2, hrb2, hgb2, hpb2, hgg2, hmm2, hk2', hg2, hx2, hfr2, hax', hay, z1, hQ1, yD, g3, g4] <;> rfl))
        | (refine W.makeMap cx_ok (by simp only [push_cast, simprocAttr] <;> rfl) (by decide) ?_)
        | (apply W.append cx_ok; decide; rfl; rfl; rfl; decide; (iterate 3 (simp (disch := (first | omega | (simp only [zE, zF, zD, zC, zA, zB, rwI_len, rowT_len, spanT_len, bothL_len]; omega))) only [push_cast, simprocAttr, takeM, dropM, zK, zA, zB, zN, zQ, zR, zO, zP, zT, zS, zU, leT, zH, pureL, pureA, natNe, zI, zG, TyD.isAgg, zJ, hS2, hrb2, hgb2, hpb2, hgg2, hmm2, hk2', hg2, hx2, hfr2, hax', hay, z1, hQ1, yD, g3, g4] <;> rfl)); (first | (focus (simp; done)) | (intro c hc; obtain ⟨x, _, rfl⟩ := List.mem_map.1 hc; rfl)); ((first | rfl | simp (disch := omega) only [push_cast])); ((try dsimp only); (try simp only [zF, zE, zD, zC, zA, zB, rwI_len, rowT_len, spanT_len, bothL_len]); omega); ((try dsimp only); (try simp only [zF, zE, zD, zC, zA, zB, rwI_len, rowT_len, spanT_len, bothL_len]); omega))

      all_goals (refine ⟨ys2.length, ?_, j2 + 1, (dn2 ++ [⟨A, B, Q2 + SH⟩, ⟨B, A, -(Q1 + SL)⟩]), ys2, rfl, hd2, (by rw [← hp12]; simp only [List.append_assoc, List.cons_append, List.nil_append]), (by (try simp (disch := omega) only [push_cast, simprocAttr, natNe, zI, zG, TyD.isAgg, zJ]); (repeat (refine hJ.frame _ _ _ _ ?_ (by omega))); exact hJ4), ?_, ?_, ?_, ?_, ?_, ?_, ?_, ?_, ?_, ?_, ?_, ?_, ?_, ?_⟩; ((simp only [List.length_cons] at *; omega)); all_goals first | (simp (disch := omega) only [push_cast, simprocAttr, hS2, natNe, zI, zG, TyD.isAgg, zJ, hrb2, hgb2, hpb2, hgg2, hmm2, hk2', hg2, hx2, hfr2, hax', hay, z1, hQ1, yD, g3, g4] <;> first | rfl | omega) | omega)

end Go.Proofs.Ks

namespace Go.Proofs.Ks
open Go Go.Pg Go.Proofs

theorem all1_ok {l n0 rb gb pb g m : Nat} {r : Rec} (hv : r.V) {more : List Int} (hml : more.length ≤ 8) (hmb : ∀ a ∈ more, 0 ≤ a ∧ a ≤ 43200) {J : List Lk → (Nat → Option AO) → Prop} (hJ : Yl l n0 rb gb pb g m r (marksR r more) (nodesR r more) J)
    (h1 : rb < n0) (h2 : gb < n0) (h3 : pb < n0) (h4 : g < n0) (h5 : m < n0) {H : Nat → Option AO} {nx : Nat} (hnx : n0 ≤ nx) (hJ0 : J [] H) {Q : AV → (Nat → Option AO) → Nat → Prop} (hQ : ∀ H n, J (linksR r more) H → nx ≤ n → Q (.tup []) H n) :
    OKm cx 121 [.v (.func (.yield l) #[] #[]), .ptr rb 0 0 1, .ptr gb 0 0 1, .ptr pb 0 0 1] H nx Q :=
  all1_a hv hml hmb hJ h1 h2 h3 h4 h5 hnx hJ0 fun s hs => all1_b hv hml hmb hJ h1 h2 h3 h4 h5 hnx hQ hs

end Go.Proofs.Ks

/-
  The end of a function that holds a range over a function: its maps, too, are as they were. Conditions: the table of types is the program's.
-/
namespace Go.Pg
open Go Go.RowKit

section
variable {C : Cx}

/-- Out of the function, past the marks: the blocks are shut. -/
theorem leavesXt {S0 : Fr} {B0 : Nat} {fn : Func} {tmps : Array Value} {tm : Nat → AV} {R : Ending → World → Prop} : ∀ (bs : List (Nat × Nat)) (w : World) (H : Nat → Option AO) (σ : Sg), Inv B0 S0 w H σ → (∀ t, Rep σ w (tm t) (tmps.getD t undef)) → Marks bs H →
    (∀ w' H' σ', Inv B0 S0 w' H' σ' → (∀ t, Rep σ' w' (tm t) (tmps.getD t undef)) → Below B0 w w' → (∀ i, rowAt H' i = rowAt H i) → (∀ i, H' i = none ↔ H i = none) → (∀ i, (∀ D ds, H i ≠ some (.mp (.dfr D ds) 0 [])) → H' i = H i) → ∃ v, (results fn tmps).run C.P w' = .ok v w' ∧ R (.returned v) w') →
    LeavesInM Fence.wide 0 C.P fn tmps R (bs.map fun p => mark p.1) .returning w
  | [], w, H, σ, hi, ht, _, fin => fin w H σ hi ht (Below.refl _ _) (fun _ => rfl) (fun _ => Iff.rfl) (fun _ _ => rfl)
  | (D, id) :: bs, w, H, σ, hi, ht, hm, fin => by
    obtain ⟨hm1, hm2⟩ := hm
    have hH : H id = some (.mp (.dfr D (some [])) 0 []) := hm2 (D, id) (by simp)
    obtain ⟨g1, g2⟩ := hi.shut hH
    obtain ⟨f1, f2, f3⟩ := g2 none
    simp only [List.map_cons, List.nodup_cons] at hm1
    refine ⟨by simp, .inl ⟨D, _, rfl, run_takeDeferred g1, ?_⟩⟩
    refine leavesXt bs _ _ σ f2 (fun t => Rep.mono f1 _ _ (ht t)) ⟨hm1.2, fun p hp => ?_⟩ fun w' H' σ' h1 h2 h3 h4 h5 h6 => fin w' H' σ' h1 h2 (f3.trans h3) (fun i => ?_) (fun i => ?_) (fun i hnd => ?_)
    · have hne : p.2 ≠ id := fun e => hm1.1 (e ▸ List.mem_map_of_mem (f := (·.2)) hp)
      simp only [updH]; rw [if_neg hne]; exact hm2 p (by simp [hp])
    · rw [h4, rowAt_updM]
      split
      · rename_i e; subst e; simp [rowAt, hH]
      · rfl
    · rw [h5]
      simp only [updH]
      split
      · rename_i e; subst e; simp [hH]
      · rfl
    · have hne : i ≠ id := fun e => by subst e; exact hnd _ _ hH
      have hu : updH H id (.mp (.dfr D none) 0 []) i = H i := by simp only [updH]; rw [if_neg hne]
      rw [h6 i (fun D' ds' => by rw [hu]; exact hnd D' ds'), hu]

/-- What the end of a function's body must tell where marks may lie: the blocks' names may turn. -/
def endXt (C : Cx) (rs : List ResultVar) (Q : AV → (Nat → Option AO) → Nat → Prop) (e : Exit) (s : St) : Prop :=
  ∀ H', (∀ i, rowAt H' i = rowAt s.H i) → (∀ i, (∀ D ds, s.H i ≠ some (.mp (.dfr D ds) 0 [])) → H' i = s.H i) → endM C rs Q e { s with H := H' }

theorem OKm.of_bodyXt [hW : C.Wide] (hC : C.OK) {f : FuncId} {fn : Func} {c : Code} {args : List AV} {rs : List ResultVar} {H : Nat → Option AO} {nx : Nat} {Q : AV → (Nat → Option AO) → Nat → Prop} (hf : C.P.funcs[f]? = some fn) (hb : fn.body = some c) (hn : (fn.name == "runtime.NumGoroutine") = false)
    (hr : fn.results = rs.toArray) (hN : args.length ≤ fn.ntmps) (h : AWx C fn.ntmps c (endXt C rs Q) { tm := fun t => args.getD t .junk, H := H, nx := nx }) : OKm C f args H nx Q := by
  refine ⟨⟨fn, hf, hn, by rw [hb]; rfl⟩, fun S0 w0 w σ vals hE hi hnx hbel hsz hrep => ?_⟩
  refine callsIn_wide.1 (callsIn_of_wp_marks (n := 0) hf hb trivial ?_)
  have hs : Sim (S0.from σ w) w0 fn.ntmps { tmps := vals ++ Array.replicate (fn.ntmps - vals.size) undef, defers := [] } w { tm := fun t => args.getD t .junk, H := H, nx := nx } := by
    refine ⟨σ, hi.from, hnx, fun t => ?_, by simp; omega, rfl, hbel⟩
    show Rep σ w (args.getD t .junk) ((vals ++ Array.replicate (fn.ntmps - vals.size) undef).getD t undef)
    by_cases ht : t < args.length
    · rw [repL_iff] at hrep
      obtain ⟨u, hu, hru⟩ := hrep t ht
      have : (vals ++ Array.replicate (fn.ntmps - vals.size) undef).getD t undef = u := by
        rw [Array.getD_eq_getD_getElem?, Array.getElem?_append_left (by omega), hu]; rfl
      rw [this, List.getD_eq_getElem?_getD, List.getElem?_eq_getElem ht]; exact hru
    · have : args.getD t .junk = .junk := by rw [List.getD_eq_getElem?_getD, List.getElem?_eq_none (by omega)]; rfl
      rw [this]; trivial
  have h2 := h (S0.from σ w) w0 _ w rfl hE hs
  rw [hW.h] at h2
  refine wpIn_mono h2 ?_
  rintro e a' w' ⟨s', bs, ⟨σ', hσ'⟩, hm, hq⟩
  have fin : (∀ H', (∀ i, rowAt H' i = rowAt s'.H i) → (∀ i, (∀ D ds, s'.H i ≠ some (.mp (.dfr D ds) 0 [])) → H' i = s'.H i) → ∃ vs, resVs C.T { s' with H := H' } rs = some vs ∧ Q (bundle vs) H' s'.nx) →
      LeavesInM Fence.wide 0 C.P fn a'.tmps (fun e w' => ∃ v r σ' H' nx', e = .returned v ∧ Q r H' nx' ∧ Below w0.heap.size w0 w' ∧ Inv w0.heap.size S0 w' H' σ' ∧ (∀ id, nx' ≤ id → H' id = none) ∧ Le σ σ' w w' ∧ Rep σ' w' r v) a'.defers .returning w' := by
    intro hq
    rw [show a'.defers = bs.map (fun p => mark p.1) from hσ'.d]
    refine leavesXt bs w' s'.H σ' hσ'.inv hσ'.tm hm fun w2 H2 σ2 h1 h2 h3 h4 h5 h6 => ?_
    obtain ⟨vs, hvs, hq⟩ := hq H2 h4 h6
    have hs2 : SimG { (S0.from σ w) with ds := bs.map (fun p => mark p.1) } w0 fn.ntmps a' w2 { s' with H := H2 } σ2 := ⟨h1, fun id hid => (h5 id).2 (hσ'.nx id hid), h2, hσ'.N, hσ'.d, hσ'.below.trans h3⟩
    obtain ⟨v, hv, hrv⟩ := run_results_of hC hs2 hr hvs
    have hi2 : Inv w0.heap.size (S0.from σ w) w2 H2 σ2 := ⟨h1.al, h1.fresh, h1.S_lt, h1.own_lt, h1.row, h1.mp, h1.fr⟩
    obtain ⟨hi', hle⟩ := hi2.unfrom
    exact ⟨v, hv, v, _, σ2, H2, s'.nx, rfl, hq, hs2.below, hi', hs2.nx, hle, hrv⟩
  cases e with
  | normal => exact fin hq
  | ret => exact fin hq
  | exit id => exact (hq s'.H (fun _ => rfl) (fun _ _ => rfl)).elim
  | goto l => exact (hq s'.H (fun _ => rfl) (fun _ _ => rfl)).elim
  | panic c => exact (hq s'.H (fun _ => rfl) (fun _ _ => rfl)).elim
  | outgrown => exact (hq s'.H (fun _ => rfl) (fun _ _ => rfl)).elim
end

end Go.Pg

/-
  A row of numbers that a call of the library sorts in place, or cuts to its different ones. Conditions: the library's contracts.
-/
namespace Go.Pg
open Go Go.RowKit Go.Sort

/-- The contract of slices.Sort at rows of numbers, as the library tells it. -/
def SortC (P : Program) (f : FuncId) : Prop :=
  ∀ (blk off cap : Nat) (zs : List Int) (w : World), Holds (Value.int .i64) w blk off zs.toArray → blk < w.heap.size → zs.length < 4611686018427387904 →
    Calls P f #[.slice (some ⟨blk, off, none⟩) zs.length cap] w fun e w' => e = .returned (.tuple #[]) ∧ ∃ n os, w' = grow (putRow (Value.int .i64) (Sort.ahead w n) blk off (zs.mergeSort fun x y => decide (x ≤ y)).toArray) os
/-- The contract of slices.Compact at rows of numbers, as the library tells it. -/
def CompactC (P : Program) (f : FuncId) : Prop :=
  ∀ (blk off cap : Nat) (zs : List Int) (w : World), Holds (Value.int .i64) w blk off zs.toArray → zs.length ≤ 9223372036854775807 → zs.length ≤ cap →
    Calls P f #[.slice (some ⟨blk, off, none⟩) zs.length cap] w fun e w' => e = .returned (.slice (some ⟨blk, off, none⟩) (Lib.compact zs).length cap) ∧ ∃ q, w' = putRow (Value.int .i64) (Sort.ahead w q) blk off (Lib.compact zs ++ List.replicate (zs.length - (Lib.compact zs).length) 0).toArray

theorem arr_get (l : List Int) (i : Nat) (h : i < l.length) : l.toArray[i]! = l[i] := by
  rw [getElem!_pos _ i (by simpa using h)]; simp
theorem compact_len (l : List Int) : (Lib.compact l).length ≤ l.length := by
  unfold Lib.compact Lib.compactUpTo
  rw [List.length_map]
  exact Nat.le_trans (List.length_filter_le _ _) (by simp)

section
variable {B0 : Nat} {S0 : Fr} {w : World} {H : Nat → Option AO} {σ : Sg} {id b lo : Nat} {ty : TypeId} {l : List Int}

theorem Inv.holdsI (hi : Inv B0 S0 w H σ) (h : rowAt H id = some { k := 1, es := l.map fun n => [.v (.int .i64 n)], ty := ty, lo := lo }) (hcur : σ.cur id = some b) : Holds (Value.int .i64) w b 0 l.toArray := by
  have hR := hi.row id _ (rowAt_eq h)
  obtain ⟨a1, a2, a3, a4, arr, a5, a6⟩ := hR.cur b hcur
  intro j hj
  have hj' : j < l.length := by simpa using hj
  refine ⟨?_, ?_⟩
  · have hcon := hR.con b hcur j (by simpa using hj')
    simp only [List.getElem_map, RepL] at hcon
    obtain ⟨⟨u, hu, hru⟩, _⟩ := hcon
    simp only [Rep] at hru
    subst hru
    rw [arr_get l j hj', ← hu]
    simp
  · simp [World.frozen?, a5]
theorem Inv.putInts (hi : Inv B0 S0 w H σ) (h : rowAt H id = some { k := 1, es := l.map fun n => [.v (.int .i64 n)], ty := ty, lo := lo }) (hcur : σ.cur id = some b) {d : List Int} (hsl : d.length = l.length) (n : Nat) (os : Array Obj) :
    Le σ (σ.renew b id l.length (σ.cap b)) w (grow (putRow (Value.int .i64) (Sort.ahead w n) b 0 d.toArray) os) ∧
    Inv B0 S0 (grow (putRow (Value.int .i64) (Sort.ahead w n) b 0 d.toArray) os) (updH H id (.row { k := 1, es := d.map fun n => [.v (.int .i64 n)], ty := ty, lo := lo })) (σ.renew b id l.length (σ.cap b)) ∧
    Below B0 w (grow (putRow (Value.int .i64) (Sort.ahead w n) b 0 d.toArray) os) := by
  have hH := rowAt_eq h
  have hR := hi.row id _ hH
  obtain ⟨a1, a2, a3, a4, arr, a5, a6⟩ := hR.cur b hcur
  have hlt := (hi.own_lt b id a1).2
  have hB := (hi.own_lt b id a1).1
  have hoth : ∀ k, k < w.heap.size → k ≠ b → (grow (putRow (Value.int .i64) (Sort.ahead w n) b 0 d.toArray) os).heap[k]? = w.heap[k]? := by
    intro k hk hne
    simp only [grow, putRow, mapBlock, Sort.ahead]
    rw [Array.getElem?_append_left (by simpa using hk), Array.getElem?_modify, if_neg (fun e => hne e.symm)]
  have hsame : (grow (putRow (Value.int .i64) (Sort.ahead w n) b 0 d.toArray) os).heap[b]? = some (.cells (putCells (Value.int .i64) 0 d.toArray arr) ty (0, 0)) := by
    simp only [grow, putRow, mapBlock, Sort.ahead]
    rw [Array.getElem?_append_left (by simpa using hlt), Array.getElem?_modify, if_pos rfl, a5]
    rfl
  have hsize : w.heap.size ≤ (grow (putRow (Value.int .i64) (Sort.ahead w n) b 0 d.toArray) os).heap.size := by simp [grow, putRow, mapBlock, Sort.ahead]
  have hk := hi.renew (r' := { k := 1, es := d.map fun n => [.v (.int .i64 n)], ty := ty, lo := lo }) (w' := grow (putRow (Value.int .i64) (Sort.ahead w n) b 0 d.toArray) os) hH rfl rfl rfl (.inl hcur) hsame hsize
    (fun k hk _ hne => hoth k hk hne) (.inr ⟨by simp [hsl], rfl, hcur, rfl⟩) (by simpa [hsl] using a3) a4 (by simpa [putCells] using a6)
    (fun e he => by obtain ⟨x, _, rfl⟩ := List.mem_map.1 he; exact ⟨rfl, fun c hc => by simp at hc; subst hc; rfl⟩)
    (fun i hi' => by
      have hi2 : i < d.length := by simpa using hi'
      have hi3 : i < arr.size := by
        have e1 : arr.size = σ.cap b := by simpa using a6
        have e2 : l.length ≤ σ.cap b := by simpa using a3
        omega
      simp only [List.getElem_map, RepL, and_true]
      refine ⟨.int .i64 d[i], ?_, rfl⟩
      simp only [putCells, Array.getElem?_mapIdx, Nat.mul_one, Nat.add_zero]
      rw [Array.getElem?_eq_getElem hi3]
      simp only [Option.map_some, Option.some.injEq]
      rw [if_pos ⟨Nat.zero_le _, by simpa using hi2⟩, Nat.sub_zero, arr_get d i hi2])
  rw [show ({ k := 1, es := d.map fun n => [.v (.int .i64 n)], ty := ty, lo := lo } : Row).es.length = l.length by simp [hsl]] at hk
  exact ⟨hk.1, hk.2, rfl, rfl, rfl, hsize, fun k hk => hoth k (by omega) (by omega)⟩
end

/-- What a slice of a whole row is. -/
theorem refs_arg {H : Nat → Option AO} {w : World} {B0 : Nat} {S0 : Fr} {σ : Sg} (hi : Inv B0 S0 w H σ) {l : List Int} (hl : l ≠ []) {id lo : Nat} {ty : TypeId} (h : rowAt H id = some { k := 1, es := l.map fun n => [.v (.int .i64 n)], ty := ty, lo := lo })
    {vals : Array Value} (hs : vals.size = 1) (hr : RepL σ w [.ref id 0 l.length] (fun i => vals[i]?)) : ∃ b, σ.cur id = some b ∧ vals = #[.slice (some ⟨b, 0, none⟩) l.length (σ.cap b)] ∧ b < w.heap.size := by
  have hR := hi.row id _ (rowAt_eq h)
  simp only [RepL] at hr
  obtain ⟨⟨u, hu, hru⟩, _⟩ := hr
  simp only [Rep] at hru
  obtain ⟨hal, A, cap, rfl, h1, h2, h3, h4⟩ := hru
  have hpos : l.length ≠ 0 := fun e => hl (List.eq_nil_of_length_eq_zero e)
  obtain ⟨b, hcur, rfl, rfl⟩ := (h4 trivial (by rw [hR.len]; simp)).resolve_left (fun hh => hpos hh.2.1)
  refine ⟨b, hcur, ?_, (hi.own_lt b id (hR.cur b hcur).1).2⟩
  apply Array.ext
  · simpa using hs
  · intro i hi1 hi2
    have : i = 0 := by simp at hi2; omega
    subst this
    rw [Array.getElem?_eq_getElem hi1] at hu
    injection hu

theorem OKm.sorts {C : Cx} {f : FuncId} (hent : Enters C.P f) (hc : SortC C.P f) {l : List Int} (hl : l ≠ []) (hmax : l.length < 4611686018427387904) {id : Nat} {H : Nat → Option AO} {nx lo : Nat} {ty : TypeId}
    (h : rowAt H id = some { k := 1, es := l.map fun n => [.v (.int .i64 n)], ty := ty, lo := lo }) :
    OKm C f [.ref id 0 l.length] H nx (fun v H' nx' => v = .tup [] ∧ H' = updH H id (.row { k := 1, es := (l.mergeSort fun x y => decide (x ≤ y)).map fun n => [.v (.int .i64 n)], ty := ty, lo := lo }) ∧ nx' = nx) := by
  refine ⟨hent, fun S0 w0 w σ vals hE hi hnx hb hs hr => ?_⟩
  obtain ⟨b, hcur, rfl, hlt⟩ := refs_arg hi hl h (by simpa using hs) hr
  refine (hc b 0 (σ.cap b) l w (hi.holdsI h hcur) hlt hmax).mono ?_
  rintro e w' ⟨rfl, n, os, rfl⟩
  have hsl : (l.mergeSort fun x y => decide (x ≤ y)).length = l.length := List.length_mergeSort _
  obtain ⟨hle, hinv, hbel⟩ := hi.putInts h hcur hsl n os
  exact ⟨_, .tup [], _, _, nx, rfl, ⟨rfl, rfl, rfl⟩, hb.trans hbel, hinv, updH_nx hnx (by rw [rowAt_eq h]; simp), hle, by simp [Rep, RepL]⟩

theorem OKm.compacts {C : Cx} {f : FuncId} (hent : Enters C.P f) (hc : CompactC C.P f) {l : List Int} (hl : l ≠ []) (hmax : l.length ≤ 9223372036854775807) {id : Nat} {H : Nat → Option AO} {nx lo : Nat} {ty : TypeId}
    (h : rowAt H id = some { k := 1, es := l.map fun n => [.v (.int .i64 n)], ty := ty, lo := lo }) :
    OKm C f [.ref id 0 l.length] H nx (fun v H' nx' => v = .lst ((Lib.compact l).map fun n => [.v (.int .i64 n)]) ∧ (∀ j, j ≠ id → H' j = H j) ∧ nx' = nx) := by
  refine ⟨hent, fun S0 w0 w σ vals hE hi hnx hb hs hr => ?_⟩
  obtain ⟨b, hcur, rfl, hlt⟩ := refs_arg hi hl h (by simpa using hs) hr
  obtain ⟨a1, a2, a3, a4, arr, a5, a6⟩ := (hi.row id _ (rowAt_eq h)).cur b hcur
  have hcap : l.length ≤ σ.cap b := by simpa using a3
  refine (hc b 0 (σ.cap b) l w (hi.holdsI h hcur) hmax hcap).mono ?_
  rintro e w' ⟨rfl, n, rfl⟩
  have hcl := compact_len l
  have hsl : (Lib.compact l ++ List.replicate (l.length - (Lib.compact l).length) 0).length = l.length := by simp; omega
  obtain ⟨hle, hinv, hbel⟩ := hi.putInts h hcur hsl n #[]
  rw [grow_empty] at hle hinv hbel
  have hget : ∀ i (h : i < (Lib.compact l).length), (Lib.compact l ++ List.replicate (l.length - (Lib.compact l).length) 0)[i]? = some (Lib.compact l)[i] := fun i h => by
    rw [List.getElem?_append_left h, List.getElem?_eq_getElem h]
  generalize Lib.compact l ++ List.replicate (l.length - (Lib.compact l).length) 0 = D at hle hinv hbel hsl hget
  have hrow : ∀ i ∈ [id], ∃ r, rowAt (updH H id (.row { k := 1, es := D.map fun n => [.v (.int .i64 n)], ty := ty, lo := lo })) i = some r := by
    intro i hi'
    rw [List.mem_singleton] at hi'; subst hi'
    exact ⟨{ k := 1, es := D.map fun n => [.v (.int .i64 n)], ty := ty, lo := lo }, by simp [rowAt, updH]⟩
  have hinv2 := hinv.frz hrow
  have hle2 := hle.trans (hinv.le_frz [id])
  refine ⟨_, .lst _, _, _, nx, rfl, ⟨rfl, fun j hj => ?_, rfl⟩, hb.trans hbel, hinv2, fun i hi' => ?_, hle2, ?_⟩
  · simp [Pg.frz, hj, updH]
  · have hne : i ≠ id := fun e => by subst e; have := hnx i hi'; rw [rowAt_eq h] at this; cases this
    simp [Pg.frz, hne, updH, hnx i hi']
  · simp only [Rep]
    refine ⟨some ⟨b, 0, none⟩, σ.cap b, 1, by simp, by simp; omega, a4, fun e he => ?_, fun _ => ⟨b, 0, rfl, .inr ⟨id, by simp, ?_⟩, ?_⟩⟩
    · obtain ⟨x, _, rfl⟩ := List.mem_map.1 he; exact ⟨rfl, fun c hc => by simp at hc; subst hc; rfl⟩
    · simp [Sg.renew]
    · rw [repLL_iff]
      intro i hi'
      have hi2 : i < (Lib.compact l).length := by simpa using hi'
      have hi3 : i < D.length := by omega
      have hR2 := hinv.row id { k := 1, es := D.map fun n => [.v (.int .i64 n)], ty := ty, lo := lo } (by simp [updH])
      have hcon := hR2.con b (by simp [Sg.renew]) i (by simpa using hi3)
      simp only [List.getElem_map, RepL] at hcon ⊢
      obtain ⟨⟨u, hu, hru⟩, _⟩ := hcon
      refine ⟨⟨u, ?_, ?_⟩, trivial⟩
      · rw [← hu]; simp
      · simp only [Rep] at hru ⊢
        have := hget i hi2
        rw [List.getElem?_eq_getElem hi3] at this
        injection this with this
        rw [hru, this]
end Go.Pg

/-
  DERIVED: THE SHELF's CONTRACTS AT THIS DUMP, IN PLAIN WORDS (tools/lay-plain.mjs out of 'TryShelf.lean', which tools/lay-shelf.mjs wrote): THE SAME DECLARATIONS UNDER THE SAME NAMES: 'import', 'namespace', 'open', 'def', 'theorem' AND NOTHING ELSE: no command of the shelf's: FOR A HAND-IN. Each laying: the table of numbers ('.._ren') and one theorem, a field a fact of the dump's own or the kernel's comparison; each contract: ONE APPLICATION.
-/
namespace Go.Proofs
open Go.Shelf
def Try.lays189_ren : Go.Shelf.Ren := ⟨fun | 189 => 99 | 125 => 118 | 257 => 117 | 128 => 137 | 129 => 138 | 294 => 128 | 295 => 129 | 296 => 130 | 297 => 131 | 298 => 132 | 299 => 133 | 216 => 134 | 300 => 135 | 301 => 136 | 328 => 139 | 329 => 140 | 330 => 141 | 331 => 142 | 332 => 143 | 215 => 144 | 343 => 145 | n => n, fun | 28 => 41 | 3 => 3 | 46 => 164 | 0 => 0 | 51 => 182 | 53 => 184 | 4 => 4 | 183 => 174 | 182 => 173 | 131 => 179 | 5 => 5 | 9 => 9 | 218 => 185 | 222 => 189 | 228 => 191 | 229 => 114 | n => n, fun | n => n⟩
theorem Try.lays189 : Go.Proofs.Lays.n189 Try.prog Try.lays189_ren := {
  mixed := by kernel_rfl
  f125 := Try.func118.trans (congrArg some (by kernel_rfl))
  f128 := Try.func137.trans (congrArg some (by kernel_rfl))
  f129 := Try.func138.trans (congrArg some (by kernel_rfl))
  f189 := Try.func99.trans (congrArg some (by kernel_rfl))
  f215 := Try.func144.trans (congrArg some (by kernel_rfl))
  f216 := Try.func134.trans (congrArg some (by kernel_rfl))
  f257 := Try.func117.trans (congrArg some (by kernel_rfl))
  f294 := Try.func128.trans (congrArg some (by kernel_rfl))
  f295 := Try.func129.trans (congrArg some (by kernel_rfl))
  f296 := Try.func130.trans (congrArg some (by kernel_rfl))
  f297 := Try.func131.trans (congrArg some (by kernel_rfl))
  f298 := Try.func132.trans (congrArg some (by kernel_rfl))
  f299 := Try.func133.trans (congrArg some (by kernel_rfl))
  f300 := Try.func135.trans (congrArg some (by kernel_rfl))
  f301 := Try.func136.trans (congrArg some (by kernel_rfl))
  f328 := Try.func139.trans (congrArg some (by kernel_rfl))
  f329 := Try.func140.trans (congrArg some (by kernel_rfl))
  f330 := Try.func141.trans (congrArg some (by kernel_rfl))
  f331 := Try.func142.trans (congrArg some (by kernel_rfl))
  f332 := Try.func143.trans (congrArg some (by kernel_rfl))
  f343 := Try.func145.trans (congrArg some (by kernel_rfl))
  t0 := Try.underlying0
  a0 := Try.isAgg0
  z0 := Try.sizeOf0
  v0 := Try.zeroValue0
  t3 := Try.underlying3
  a3 := Try.isAgg3
  z3 := Try.sizeOf3
  v3 := Try.zeroValue3
  t4 := Try.underlying4
  a4 := Try.isAgg4
  z4 := Try.sizeOf4
  v4 := Try.zeroValue4
  t5 := Try.underlying5
  a5 := Try.isAgg5
  z5 := Try.sizeOf5
  v5 := Try.zeroValue5
  t9 := Try.underlying9
  a9 := Try.isAgg9
  z9 := Try.sizeOf9
  v9 := Try.zeroValue9
  t28 := Try.underlying41
  a28 := Try.isAgg41
  z28 := Try.sizeOf41
  v28 := Try.zeroValue41
  t46 := Try.underlying164
  a46 := Try.isAgg164
  z46 := Try.sizeOf164
  v46 := Try.zeroValue164
  t51 := Try.underlying182
  a51 := Try.isAgg182
  z51 := Try.sizeOf182
  v51 := Try.zeroValue182
  t53 := Try.underlying184
  a53 := Try.isAgg184
  z53 := Try.sizeOf184
  v53 := Try.zeroValue184
  t131 := Try.underlying179
  a131 := Try.isAgg179
  z131 := Try.sizeOf179
  v131 := Try.zeroValue179
  t182 := Try.underlying173
  a182 := Try.isAgg173
  z182 := Try.sizeOf173
  v182 := Try.zeroValue173
  t183 := Try.underlying174
  a183 := Try.isAgg174
  z183 := Try.sizeOf174
  v183 := Try.zeroValue174
  t218 := Try.underlying185
  a218 := Try.isAgg185
  z218 := Try.sizeOf185
  v218 := Try.zeroValue185
  t222 := Try.underlying189
  a222 := Try.isAgg189
  z222 := Try.sizeOf189
  v222 := Try.zeroValue189
  t228 := Try.underlying191
  a228 := Try.isAgg191
  z228 := Try.sizeOf191
  v228 := Try.zeroValue191
  t229 := Try.underlying114
  a229 := Try.isAgg114
  z229 := Try.sizeOf114
  v229 := Try.zeroValue114 }
open Go.Sort Go.RowKit in
theorem Try.slices_Sort_int (blk off cap : Nat) (zs : List Int) (w : World) (hH : Holds (Value.int .i64) w blk off zs.toArray) (hblk : blk < w.heap.size) (hsz : zs.length < 4611686018427387904) :
    Calls Try.prog 99 #[.slice (some ⟨blk, off, none⟩) zs.length cap] w fun e w' =>
      e = .returned (.tuple #[]) ∧ ∃ n os, w' = grow (putRow (Value.int .i64) (Sort.ahead w n) blk off (zs.mergeSort fun x y => decide (x ≤ y)).toArray) os := Any.slices_Sort_int Try.lays189 blk off cap zs w hH hblk hsz
def Try.lays112_ren : Go.Shelf.Ren := ⟨fun | 112 => 89 | n => n, fun | 28 => 41 | 3 => 3 | 4 => 4 | 0 => 0 | n => n, fun | n => n⟩
theorem Try.lays112 : Go.Proofs.Lays.n112 Try.prog Try.lays112_ren := {
  mixed := by kernel_rfl
  f112 := Try.func89.trans (congrArg some (by kernel_rfl))
  t0 := Try.underlying0
  a0 := Try.isAgg0
  z0 := Try.sizeOf0
  v0 := Try.zeroValue0
  t3 := Try.underlying3
  a3 := Try.isAgg3
  z3 := Try.sizeOf3
  v3 := Try.zeroValue3
  t4 := Try.underlying4
  a4 := Try.isAgg4
  z4 := Try.sizeOf4
  v4 := Try.zeroValue4
  t28 := Try.underlying41
  a28 := Try.isAgg41
  z28 := Try.sizeOf41
  v28 := Try.zeroValue41 }
open Go.RowKit Go.Lib Go.Sort in
/-- slices.Reverse at []int, over an array: Go's loop from the two ends inward is walked; it makes 'Sort.reverseLoop 0 (len - 1)', which is 'Array.reverse' (Derived/Lib/SlicesMore.lean). (LAID: no walk: one application.) -/
theorem Try.slices_Reverse_int_arr (blk off cap : Nat) (d : Array Int) (w : World) (hH : Holds encI w blk off d) (hsz : d.size ≤ 9223372036854775807) :
    Calls Try.prog 89 #[.slice (some ⟨blk, off, none⟩) d.size cap] w fun e w' => e = .returned (.tuple #[]) ∧ ∃ n, w' = putRow encI (Sort.ahead w n) blk off d.reverse := Any.slices_Reverse_int_arr Try.lays112 blk off cap d w hH hsz
open Go.RowKit Go.Lib Go.Sort in
/-- slices.Reverse at []int: "Reverse reverses the elements of the slice in place.": THE SLICE's CELLS HOLD 'zs.reverse' BEHIND THE CALL; all else is as it was, but for the count of draws (the exchange 's[i], s[j] = s[j], s[i]' draws its order, once a round). IN THE WORDS OF slices.Sort's CONTRACT: 'Holds': the cells hold zs and none is frozen; 'putRow': the world with those cells holding another array. A slice of length 0 that is not nil is among them ('zs = []'); nil: '.._nil'. (LAID: no walk: one application.) -/
theorem Try.slices_Reverse_int (blk off cap : Nat) (zs : List Int) (w : World) (hH : Holds (Value.int .i64) w blk off zs.toArray) (hsz : zs.length ≤ 9223372036854775807) :
    Calls Try.prog 89 #[.slice (some ⟨blk, off, none⟩) zs.length cap] w fun e w' => e = .returned (.tuple #[]) ∧ ∃ n, w' = putRow (Value.int .i64) (Sort.ahead w n) blk off zs.reverse.toArray := Any.slices_Reverse_int Try.lays112 blk off cap zs w hH hsz
open Go.RowKit Go.Lib Go.Sort in
/-- The same at a slice of length 0, a nil one too: nothing is read, nothing written, nothing drawn. (LAID: no walk: one application.) -/
theorem Try.slices_Reverse_int_empty (a : Option Addr) (cap : Nat) (w : World) :
    Calls Try.prog 89 #[.slice a 0 cap] w fun e w' => e = .returned (.tuple #[]) ∧ w' = w := Any.slices_Reverse_int_empty Try.lays112 a cap w
def Try.laysNm220_ren : Go.Shelf.Ren := ⟨fun | 20 => 120 | n => n, fun | 22 => 41 | 3 => 3 | 4 => 4 | 0 => 0 | n => n, fun | n => n⟩
theorem Try.laysNm220 : Go.Proofs.Lays2.n20 Try.prog Try.laysNm220_ren := {
  mixed := by kernel_rfl
  f20 := Try.func120.trans (congrArg some (by kernel_rfl))
  t0 := Try.underlying0
  a0 := Try.isAgg0
  z0 := Try.sizeOf0
  v0 := Try.zeroValue0
  t3 := Try.underlying3
  a3 := Try.isAgg3
  z3 := Try.sizeOf3
  v3 := Try.zeroValue3
  t4 := Try.underlying4
  a4 := Try.isAgg4
  z4 := Try.sizeOf4
  v4 := Try.zeroValue4
  t22 := Try.underlying41
  a22 := Try.isAgg41
  z22 := Try.sizeOf41
  v22 := Try.zeroValue41
  i3 := by kernel_rfl }
open Go.RowKit Go.Lib Go.Sort in
/-- slices.Compact at []int, over an array: the library's two loops are walked. (LAID: no walk: one application.) -/
theorem Try.slices_Compact_int_arr (blk off cap : Nat) (d : Array Int) (w : World) (hH : Holds encI w blk off d) (hsz : d.size ≤ 9223372036854775807) (hcap : d.size ≤ cap) :
    Calls Try.prog 120 #[.slice (some ⟨blk, off, none⟩) d.size cap] w fun e w' => e = .returned (.slice (some ⟨blk, off, none⟩) (compactUpTo d d.size).length cap) ∧ ∃ q, w' = putRow encI (Sort.ahead w q) blk off (compactUpTo d d.size ++ List.replicate (d.size - (compactUpTo d d.size).length) 0).toArray := Any.slices_Compact_int_arr Try.laysNm220 blk off cap d w hH hsz hcap
open Go.RowKit Go.Lib Go.Sort in
/-- slices.Compact at []int: "Compact replaces consecutive runs of equal elements with a single copy. This is like the uniq command found on Unix. Compact modifies the contents of the slice s and returns the modified slice, which may have a smaller length. Compact zeroes the elements between the new length and the original length. The result preserves the nilness of s.": IT RETURNS THE SLICE CUT TO 'Lib.compact zs'; ITS CELLS HOLD 'Lib.compact zs', THEN ZERO VALUES up to the old length; all else is as it was, but for the count of draws. IN THE WORDS OF slices.Sort's CONTRACT ('Holds', 'putRow'): so the everyday 'slices.Sort(xs); xs = slices.Compact(xs)' goes from the one contract to the other. It asks 'zs.length ≤ cap' (every slice's: the reslicing 's[:k]' looks at it). Length 0, nil: '.._empty'. (LAID: no walk: one application.) -/
theorem Try.slices_Compact_int (blk off cap : Nat) (zs : List Int) (w : World) (hH : Holds (Value.int .i64) w blk off zs.toArray) (hsz : zs.length ≤ 9223372036854775807) (hcap : zs.length ≤ cap) :
    Calls Try.prog 120 #[.slice (some ⟨blk, off, none⟩) zs.length cap] w fun e w' => e = .returned (.slice (some ⟨blk, off, none⟩) (Lib.compact zs).length cap) ∧ ∃ q, w' = putRow (Value.int .i64) (Sort.ahead w q) blk off (Lib.compact zs ++ List.replicate (zs.length - (Lib.compact zs).length) 0).toArray := Any.slices_Compact_int Try.laysNm220 blk off cap zs w hH hsz hcap
open Go.RowKit Go.Lib Go.Sort in
/-- The same at a slice of length 0, a nil one too: it comes back as it is. (LAID: no walk: one application.) -/
theorem Try.slices_Compact_int_empty (a : Option Addr) (cap : Nat) (w : World) :
    Calls Try.prog 120 #[.slice a 0 cap] w fun e w' => e = .returned (.slice a 0 cap) ∧ w' = w := Any.slices_Compact_int_empty Try.laysNm220 a cap w
open Go.RowKit Go.Sort in
/-- .. and plain. (LAID: no walk: one application.) -/
theorem Try.slices_Sort_int_none (p : Option Addr) (cap : Nat) (w : World) :
    Calls Try.prog 99 #[.slice p 0 cap] w fun e w' => e = .returned (.tuple #[]) ∧ w' = w := Any.slices_Sort_int_none Try.lays189 p cap w
end Go.Proofs

namespace Go.Proofs.Ks
open Go Go.Pg Go.Proofs

def markP (r : Rec) (more : List Int) (k : Nat) : List Int := [r.s.zero.lo, r.s.zero.hi + 1, r.s.fin.lo, r.s.fin.hi + 1] ++ (more ++ (r.strikes.take k).flatMap fun x => [x.pos.lo, x.pos.hi + 1])
theorem markP_succ {r : Rec} {more : List Int} {k : Nat} {x : Strike} {rest : List Strike} (h : r.strikes.drop k = x :: rest) : markP r more (k + 1) = markP r more k ++ [x.pos.lo, x.pos.hi + 1] := by
  unfold markP
  rw [take_snoc h, List.flatMap_append]
  simp
theorem markP_len {r : Rec} {more : List Int} : ∀ {k : Nat}, k ≤ r.strikes.length → (markP r more k).length = 4 + more.length + 2 * k := by
  intro k hk
  unfold markP
  have : ∀ l : List Strike, (l.flatMap fun x => [x.pos.lo, x.pos.hi + 1]).length = 2 * l.length := by
    intro l
    induction l with
    | nil => rfl
    | cons y l ih => rw [List.flatMap_cons, List.length_append, ih]; simp only [List.length_cons, List.length_nil]; omega
  rw [List.length_append, List.length_append, this, List.length_take, Nat.min_eq_left hk]
  simp only [List.length_cons, List.length_nil]; omega
theorem markP_all (r : Rec) (more : List Int) : markP r more r.strikes.length = markL r more := by
  unfold markP markL
  rw [List.take_length]
theorem marked0_ok (r : Rec) (more : List Int) (hv : r.V) (hm : more.length ≤ 8) (hs : SortC cx.P 99) (hc : CompactC cx.P 120) : OKv cx 112 [.agg (eRec r), lInt more] (lInt (marksR r more)) := by
  obtain ⟨z1, z2, z3⟩ := hv.z
  obtain ⟨f1, f2, f3⟩ := hv.f
  have hns := hv.nstrikes
  have hl0 := markP_len (r := r) (more := more) (Nat.zero_le _)
  refine OKat.of_body (rs := [4]) Try.func112 rfl (by decide +kernel) rfl (by simp [Try.ntmps112]) ?_
  simp only [Try.ntmps112]
  repeat' first
    | apply AW.seq | apply AW.region | apply AW.ret | apply AW.block | apply AW.skip | apply AW.exit | apply AW.scope | apply AW.label | apply AWL.nil
    | ((first | (apply W.step cx_ok; decide) | apply W.store cx_ok | apply AW.cond); (simp (disch := (first | omega | (simp only [zE, zF, zD, zC, zA, zB, markP_len]; omega))) only [push_cast, simprocAttr, takeM, dropM, zK, zA, zB, zN, zQ, zR, zO, zP, zT, zS, zU, leT, zH, pureL, pureA, natNe, zI, zG, TyD.isAgg, zJ, isEmpty_map, zE, zD, zC, zV, zM] <;> rfl); all_goals try ((with_reducible intro hI); try first | (cases hI; done) | (simp only [INTS, zL] at hI; try first | (exfalso; omega) | (have hT : True := hI; clear hT hI))))
    | (apply W.append cx_ok; decide; rfl; rfl; rfl; decide; (iterate 3 (simp (disch := (first | omega | (simp only [zE, zF, zD, zC, zA, zB, markP_len]; omega))) only [push_cast, simprocAttr, takeM, dropM, zK, zA, zB, zN, zQ, zR, zO, zP, zT, zS, zU, leT, zH, pureL, pureA, natNe, zI, zG, TyD.isAgg, zJ, isEmpty_map, zE, zD, zC, zV, zM] <;> rfl)); (first | (focus (simp; done)) | (intro c hc; obtain ⟨x, _, rfl⟩ := List.mem_map.1 hc; rfl)); ((first | rfl | simp (disch := omega) only [push_cast])); ((try dsimp only); (try simp only [zF, zE, zD, zC, zA, zB, markP_len]); omega); ((try dsimp only); (try simp only [zF, zE, zD, zC, zA, zB, markP_len]); omega))
    | ((first | apply W.ret1 | apply W.end1); (iterate 2 (try (simp (disch := (first | omega | (simp only [zE, zF, zD, zC, zA, zB, markP_len]; omega))) only [push_cast, simprocAttr, takeM, dropM, zK, zA, zB, zN, zQ, zR, zO, zP, zT, zS, zU, leT, zH, pureL, pureA, natNe, zI, zG, TyD.isAgg, zJ, isEmpty_map, zE, zD, zC, zV, zM] <;> rfl))))

  refine AW.loop (fun n s => ∃ (k lw : Nat) (rest : List Strike), n = rest.length ∧ (r.strikes.drop k = rest) ∧ (lw ≤ 4 + more.length + 2 * k) ∧ (k ≤ r.strikes.length) ∧ 3 ≤ s.nx ∧ s.tm 2 = .ptr 0 0 0 1 ∧ s.tm 6 = .ref 2 0 (4 + more.length + 2 * k) ∧ s.tm 29 = lStrike r.strikes ∧ s.tm 30 = ai r.strikes.length ∧ s.tm 31 = ai k ∧ Pg.rowAt s.H 2 = some { k := 1, es := (markP r more k).map eInt, ty := 3, lo := lw }) (r.strikes.length) ⟨0, (if more.isEmpty = true then 0 else 4 + more.length), r.strikes, rfl, rfl, (by split <;> omega), (Nat.zero_le _), ?_, ?_, ?_, ?_, ?_, ?_, ?_⟩ ?_
  iterate 7 (first | (simp (disch := omega) only [push_cast, simprocAttr, natNe, zI, zG, TyD.isAgg, zJ, isEmpty_map, zE, zD, zC, zV, zM, markP, List.take_zero, List.flatMap_nil, zZ, zY, zX, zW, yB, yA] <;> first | rfl | omega) | omega)
  rintro n s ⟨k, lw, rest, hn, hp0, hp1, hp2, hnl, hS⟩
  have hl := markP_len (r := r) (more := more) hp2
  rcases rest with _ | ⟨x, rest⟩
  rotate_left
  · obtain ⟨hk, hg, hd', hl', hm', hx⟩ := drop_cons hp0 eStrike []
    have hsx := markP_succ (more := more) hp0
    obtain ⟨y1, y2, y3, y4⟩ := hv.strikes x hm'
    repeat' first
      | apply AW.seq | apply AW.region | apply AW.ret | apply AW.block | apply AW.skip | apply AW.exit | apply AW.scope | apply AW.label | apply AWL.nil
      | ((first | (apply W.step cx_ok; decide) | apply W.store cx_ok | apply AW.cond); (simp (disch := (first | omega | (simp only [zE, zF, zD, zC, zA, zB, hl]; omega))) only [push_cast, simprocAttr, takeM, dropM, zK, zA, zB, zN, zQ, zR, zO, zP, zT, zS, zU, leT, zH, pureL, pureA, natNe, zI, zG, TyD.isAgg, zJ, isEmpty_map, zE, zD, zC, zV, zM, hS, hk, hg, hx, hl] <;> rfl); all_goals try ((with_reducible intro hI); try first | (cases hI; done) | (simp only [INTS, zL] at hI; try first | (exfalso; omega) | (have hT : True := hI; clear hT hI))))
      | (apply W.append cx_ok; decide; rfl; rfl; rfl; decide; (iterate 3 (simp (disch := (first | omega | (simp only [zE, zF, zD, zC, zA, zB, hl]; omega))) only [push_cast, simprocAttr, takeM, dropM, zK, zA, zB, zN, zQ, zR, zO, zP, zT, zS, zU, leT, zH, pureL, pureA, natNe, zI, zG, TyD.isAgg, zJ, isEmpty_map, zE, zD, zC, zV, zM, hS, hk, hg, hx, hl] <;> rfl)); (first | (focus (simp; done)) | (intro c hc; obtain ⟨x, _, rfl⟩ := List.mem_map.1 hc; rfl)); ((first | rfl | simp (disch := omega) only [push_cast])); ((try dsimp only); (try simp only [zF, zE, zD, zC, zA, zB, hl]); omega); ((try dsimp only); (try simp only [zF, zE, zD, zC, zA, zB, hl]); omega))
      | ((first | apply W.ret1 | apply W.end1); (iterate 2 (try (simp (disch := (first | omega | (simp only [zE, zF, zD, zC, zA, zB, hl]; omega))) only [push_cast, simprocAttr, takeM, dropM, zK, zA, zB, zN, zQ, zR, zO, zP, zT, zS, zU, leT, zH, pureL, pureA, natNe, zI, zG, TyD.isAgg, zJ, isEmpty_map, zE, zD, zC, zV, zM, hS, hk, hg, hx, hl] <;> rfl))))

    all_goals (refine ⟨rest.length, ?_, k + 1, (4 + more.length + 2 * k + 2), rest, rfl, hd', (by omega), (by omega), ?_, ?_, ?_, ?_, ?_, ?_, ?_⟩; ((simp only [List.length_cons] at *; omega)); all_goals first | (simp (disch := omega) only [push_cast, simprocAttr, hS, natNe, zI, zG, TyD.isAgg, zJ, isEmpty_map, zE, zD, zC, zV, zM, hk, hg, hx, hl, hsx, zY, zX, zW, yB, yA] <;> first | rfl | omega) | omega)
  have hk := drop_nil hp0
  have hkS : k = r.strikes.length := by have := List.drop_eq_nil_iff.1 hp0; omega
  subst hkS
  rw [markP_all] at hS hl
  have hne : markL r more ≠ [] := by unfold markL; simp
  have hmL : (markL r more).length < 4611686018427387904 := by omega
  have hcut := markL_cut r more
  have hsl : ((markL r more).mergeSort fun x y => decide (x ≤ y)).length = (markL r more).length := List.length_mergeSort _
  obtain ⟨SL, hSL⟩ : ∃ z, (markL r more).mergeSort (fun x y => decide (x ≤ y)) = z := ⟨_, rfl⟩
  rw [hSL] at hcut hsl
  have hneS : SL ≠ [] := fun e => by rw [e] at hsl; rw [hl] at hsl; simp only [List.length_nil] at hsl; omega
  have hs1 : ∀ {args : List AV} {H : Nat → Option AO} {nx : Nat}, args = [.ref 2 0 (4 + (more.length + 2 * r.strikes.length))] → Pg.rowAt H 2 = some { k := 1, es := (markL r more).map eInt, ty := 3, lo := lw } →
      OKm cx 99 args H nx (fun v H' nx' => v = .tup [] ∧ H' = updH H 2 (.row { k := 1, es := SL.map eInt, ty := 3, lo := lw }) ∧ nx' = nx) := by
    rintro _ H nx rfl h
    rw [show 4 + (more.length + 2 * r.strikes.length) = (markL r more).length by omega, ← hSL]
    exact OKm.sorts ⟨_, Try.func99, by decide +kernel, rfl⟩ hs hne hmL h
  have hc1 : ∀ {args : List AV} {H : Nat → Option AO} {nx : Nat}, args = [.ref 2 0 (4 + (more.length + 2 * r.strikes.length))] → Pg.rowAt H 2 = some { k := 1, es := SL.map eInt, ty := 3, lo := lw } →
      OKm cx 120 args H nx (fun v H' nx' => v = lInt (marksR r more) ∧ (∀ j, j ≠ 2 → H' j = H j) ∧ nx' = nx) := by
    rintro _ H nx rfl h
    rw [show 4 + (more.length + 2 * r.strikes.length) = SL.length by omega, ← hcut]
    exact OKm.compacts ⟨_, Try.func120, by decide +kernel, rfl⟩ hc hneS (by omega) h
  repeat' first
    | apply AW.seq | apply AW.region | apply AW.ret | apply AW.block | apply AW.skip | apply AW.exit | apply AW.scope | apply AW.label | apply AWL.nil
    | ((first | (apply W.step cx_ok; decide) | apply W.store cx_ok | apply AW.cond); (simp (disch := (first | omega | (simp only [zE, zF, zD, zC, zA, zB, hl]; omega))) only [push_cast, simprocAttr, takeM, dropM, zK, zA, zB, zN, zQ, zR, zO, zP, zT, zS, zU, leT, zH, pureL, pureA, natNe, zI, zG, TyD.isAgg, zJ, isEmpty_map, zE, zD, zC, zV, zM, hS, hk] <;> rfl); all_goals try ((with_reducible intro hI); try first | (cases hI; done) | (simp only [INTS, zL] at hI; try first | (exfalso; omega) | (have hT : True := hI; clear hT hI))))
    | (apply W.append cx_ok; decide; rfl; rfl; rfl; decide; (iterate 3 (simp (disch := (first | omega | (simp only [zE, zF, zD, zC, zA, zB, hl]; omega))) only [push_cast, simprocAttr, takeM, dropM, zK, zA, zB, zN, zQ, zR, zO, zP, zT, zS, zU, leT, zH, pureL, pureA, natNe, zI, zG, TyD.isAgg, zJ, isEmpty_map, zE, zD, zC, zV, zM, hS, hk] <;> rfl)); (first | (focus (simp; done)) | (intro c hc; obtain ⟨x, _, rfl⟩ := List.mem_map.1 hc; rfl)); ((first | rfl | simp (disch := omega) only [push_cast])); ((try dsimp only); (try simp only [zF, zE, zD, zC, zA, zB, hl]); omega); ((try dsimp only); (try simp only [zF, zE, zD, zC, zA, zB, hl]); omega))
    | ((first | apply W.ret1 | apply W.end1); (iterate 2 (try (simp (disch := (first | omega | (simp only [zE, zF, zD, zC, zA, zB, hl]; omega))) only [push_cast, simprocAttr, takeM, dropM, zK, zA, zB, zN, zQ, zR, zO, zP, zT, zS, zU, leT, zH, pureL, pureA, natNe, zI, zG, TyD.isAgg, zJ, isEmpty_map, zE, zD, zC, zV, zM, hS, hk] <;> rfl))))

  refine W.callm cx_ok (by decide) (f := 99) (caps := []) (by simp (disch := omega) only [push_cast, simprocAttr, natNe, zI, zG, TyD.isAgg, zJ, isEmpty_map, zE, zD, zC, zV, zM, hS, hk] <;> rfl) (hs1 (by simp (disch := omega) only [push_cast, simprocAttr, natNe, zI, zG, TyD.isAgg, zJ, isEmpty_map, zE, zD, zC, zV, zM, hS, hk] <;> rfl) (by simp (disch := omega) only [push_cast, simprocAttr, natNe, zI, zG, TyD.isAgg, zJ, isEmpty_map, zE, zD, zC, zV, zM, hS, hk] <;> rfl)) ?_
  rintro _ _ _ ⟨rfl, rfl, rfl⟩
  repeat' first
    | apply AW.seq | apply AW.region | apply AW.ret | apply AW.block | apply AW.skip | apply AW.exit | apply AW.scope | apply AW.label | apply AWL.nil
    | ((first | (apply W.step cx_ok; decide) | apply W.store cx_ok | apply AW.cond); (simp (disch := (first | omega | (simp only [zE, zF, zD, zC, zA, zB, hl]; omega))) only [push_cast, simprocAttr, takeM, dropM, zK, zA, zB, zN, zQ, zR, zO, zP, zT, zS, zU, leT, zH, pureL, pureA, natNe, zI, zG, TyD.isAgg, zJ, isEmpty_map, zE, zD, zC, zV, zM, hS, hk] <;> rfl); all_goals try ((with_reducible intro hI); try first | (cases hI; done) | (simp only [INTS, zL] at hI; try first | (exfalso; omega) | (have hT : True := hI; clear hT hI))))
    | (apply W.append cx_ok; decide; rfl; rfl; rfl; decide; (iterate 3 (simp (disch := (first | omega | (simp only [zE, zF, zD, zC, zA, zB, hl]; omega))) only [push_cast, simprocAttr, takeM, dropM, zK, zA, zB, zN, zQ, zR, zO, zP, zT, zS, zU, leT, zH, pureL, pureA, natNe, zI, zG, TyD.isAgg, zJ, isEmpty_map, zE, zD, zC, zV, zM, hS, hk] <;> rfl)); (first | (focus (simp; done)) | (intro c hc; obtain ⟨x, _, rfl⟩ := List.mem_map.1 hc; rfl)); ((first | rfl | simp (disch := omega) only [push_cast])); ((try dsimp only); (try simp only [zF, zE, zD, zC, zA, zB, hl]); omega); ((try dsimp only); (try simp only [zF, zE, zD, zC, zA, zB, hl]); omega))
    | ((first | apply W.ret1 | apply W.end1); (iterate 2 (try (simp (disch := (first | omega | (simp only [zE, zF, zD, zC, zA, zB, hl]; omega))) only [push_cast, simprocAttr, takeM, dropM, zK, zA, zB, zN, zQ, zR, zO, zP, zT, zS, zU, leT, zH, pureL, pureA, natNe, zI, zG, TyD.isAgg, zJ, isEmpty_map, zE, zD, zC, zV, zM, hS, hk] <;> rfl))))

  refine W.callm cx_ok (by decide) (f := 120) (caps := []) (by simp (disch := omega) only [push_cast, simprocAttr, natNe, zI, zG, TyD.isAgg, zJ, isEmpty_map, zE, zD, zC, zV, zM, hS, hk] <;> rfl) (hc1 (by simp (disch := omega) only [push_cast, simprocAttr, natNe, zI, zG, TyD.isAgg, zJ, isEmpty_map, zE, zD, zC, zV, zM, hS, hk] <;> rfl) (by simp (disch := omega) only [push_cast, simprocAttr, natNe, zI, zG, TyD.isAgg, zJ, isEmpty_map, zE, zD, zC, zV, zM, hS, hk] <;> rfl)) ?_
  rintro _ H3 _ ⟨rfl, hH3, rfl⟩
  repeat' first
    | apply AW.seq | apply AW.region | apply AW.ret | apply AW.block | apply AW.skip | apply AW.exit | apply AW.scope | apply AW.label | apply AWL.nil
    | ((first | (apply W.step cx_ok; decide) | apply W.store cx_ok | apply AW.cond); (simp (disch := (first | omega | (simp only [zE, zF, zD, zC, zA, zB, hl]; omega))) only [push_cast, simprocAttr, takeM, dropM, zK, zA, zB, zN, zQ, zR, zO, zP, zT, zS, zU, leT, zH, pureL, pureA, natNe, zI, zG, TyD.isAgg, zJ, isEmpty_map, zE, zD, zC, zV, zM, hS, hk] <;> rfl); all_goals try ((with_reducible intro hI); try first | (cases hI; done) | (simp only [INTS, zL] at hI; try first | (exfalso; omega) | (have hT : True := hI; clear hT hI))))
    | (apply W.append cx_ok; decide; rfl; rfl; rfl; decide; (iterate 3 (simp (disch := (first | omega | (simp only [zE, zF, zD, zC, zA, zB, hl]; omega))) only [push_cast, simprocAttr, takeM, dropM, zK, zA, zB, zN, zQ, zR, zO, zP, zT, zS, zU, leT, zH, pureL, pureA, natNe, zI, zG, TyD.isAgg, zJ, isEmpty_map, zE, zD, zC, zV, zM, hS, hk] <;> rfl)); (first | (focus (simp; done)) | (intro c hc; obtain ⟨x, _, rfl⟩ := List.mem_map.1 hc; rfl)); ((first | rfl | simp (disch := omega) only [push_cast])); ((try dsimp only); (try simp only [zF, zE, zD, zC, zA, zB, hl]); omega); ((try dsimp only); (try simp only [zF, zE, zD, zC, zA, zB, hl]); omega))
    | ((first | apply W.ret1 | apply W.end1); (iterate 2 (try (simp (disch := (first | omega | (simp only [zE, zF, zD, zC, zA, zB, hl]; omega))) only [push_cast, simprocAttr, takeM, dropM, zK, zA, zB, zN, zQ, zR, zO, zP, zT, zS, zU, leT, zH, pureL, pureA, natNe, zI, zG, TyD.isAgg, zJ, isEmpty_map, zE, zD, zC, zV, zM, hS, hk] <;> rfl))))

  all_goals (show _ = _; rfl)
theorem sort99 : SortC cx.P 99 := fun blk off cap zs w h1 h2 h3 => Try.slices_Sort_int blk off cap zs w h1 h2 h3
theorem compact120 : CompactC cx.P 120 := fun blk off cap zs w h1 h2 h3 => Try.slices_Compact_int blk off cap zs w h1 h2 h3
theorem marked_ok (r : Rec) (more : List Int) (hv : r.V) (hm : more.length ≤ 8) : OKv cx 112 [.agg (eRec r), lInt more] (lInt (marksR r more)) := marked0_ok r more hv hm sort99 compact120

end Go.Proofs.Ks

namespace Go.Proofs.Ks
open Go Go.Pg Go.Proofs

theorem rnd_ok (l : Nat) : (cx.rnd l).OK := ⟨cx_ok.T, cx_ok.eqT, cx_ok.E⟩
theorem rnd_mixed (l : Nat) : (cx.rnd l).P.follows .mixedOrders = true := cx_mixed
theorem new_strike (k : Nat) : (⟨3, (k : Int)⟩ : Node) ∉ nd0 ++ ndS k := by
  intro h
  rcases List.mem_append.1 h with h | h
  · simp [nd0] at h
  · unfold ndS at h
    obtain ⟨i, hi, e⟩ := List.mem_map.1 h
    rw [List.mem_range] at hi
    injection e with _ e2
    omega
theorem new_mark {l : List Int} (hs : l.Pairwise (· < ·)) {k S : Nat} {x : Int} {rest : List Int} (h : l.drop k = x :: rest) : (⟨4, x⟩ : Node) ∉ nd0 ++ ndS S ++ ndM (l.take k) := by
  intro hm
  rcases List.mem_append.1 hm with hm | hm
  · rcases List.mem_append.1 hm with hm | hm
    · simp [nd0] at hm
    · unfold ndS at hm
      obtain ⟨i, hi, e⟩ := List.mem_map.1 hm
      injection e with e1 _
      exact absurd e1 (by decide)
  · unfold ndM at hm
    obtain ⟨y, hy, e⟩ := List.mem_map.1 hm
    injection e with _ e2
    subst e2
    rw [← List.take_append_drop k l, h, List.pairwise_append] at hs
    have := hs.2.2 y hy y (by simp)
    omega
/-- The objects of build while nodes are added. -/
structure Bd (H0 : Nat → Option AO) (nx : Nat) (r : Rec) (N : List Node) (H : Nat → Option AO) : Prop where
  sys : SysB H (nx + 3) (nx + 2) (nx + 4) (nx + 1) N (.ref (nx + 5) 0 0)
  rc : Pg.rowAt H nx = some { k := 14, es := [eRec r], ty := 30 }
  lk : Pg.rowAt H (nx + 5) = some { k := 3, es := [], ty := 66 }
  fr : ∀ j, j < nx → H j = H0 j
theorem addB {H0 H : Nat → Option AO} {nx m : Nat} {r : Rec} {N : List Node} (n : Node) {args : List AV} (ha : args = [.agg (eNode n), .ptr (nx + 3) 0 0 1]) (hB : Bd H0 nx r N H) (hnew : n ∉ N) (hl : N.length ≤ 1000000) (hm : nx + 6 ≤ m) :
    OKm cx 111 args H m (fun _ H' m' => Bd H0 nx r (N ++ [n]) H' ∧ m ≤ m') := by
  subst ha
  refine OKm.mono (add_m N n hl hnew hB.sys ⟨by omega, by omega, by omega⟩ ⟨by omega, by omega, by omega⟩ (by omega) (by omega) (by omega) (by omega)) ?_
  rintro v H' m' ⟨hS, hle, hf⟩
  exact ⟨⟨hS, (rowAt_eqH (hf nx (by omega) (by omega) (by omega) (by omega))).trans hB.rc, (rowAt_eqH (hf (nx + 5) (by omega) (by omega) (by omega) (by omega))).trans hB.lk, fun j hj => (hf j (by omega) (by omega) (by omega) (by omega)).trans (hB.fr j hj)⟩, hle⟩
/-- A system whose objects may still be written. -/
structure SysM (H : Nat → Option AO) (g nd m lk : Nat) (N : List Node) (L : List Lk) : Prop where
  g : Pg.rowAt H g = some { k := 3, es := [[.ref nd 0 N.length, .map m, .ref lk 0 L.length]], ty := 135 }
  nd : Pg.rowAt H nd = some { k := 2, es := N.map eNode, ty := 144, lo := N.length }
  m : H m = some (.mp (.map .pair) 0 (ixM N))
  lk : ∃ lw, lw ≤ L.length ∧ Pg.rowAt H lk = some { k := 3, es := L.map eLink, ty := 66, lo := lw }
/-- The objects of build while its loop over the links runs. -/
structure JB (H0 : Nat → Option AO) (nx e : Nat) (r : Rec) (PL : List Int) (N : List Node) (l D : Nat) (L : Loop) (tm : Nat → AV) (p : List Lk) (H : Nat → Option AO) : Prop where
  sy : SysY H (e + 1) e (e + 2) (nx + 2) (nx + 1) r PL N
  sm : SysM H (nx + 2) (nx + 4) (nx + 1) (nx + 5) N p
  c : Pg.rowAt H (nx + 3) = some { k := 1, es := [[.ptr (nx + 2) 0 0 1]], ty := 122 }
  fr : ∀ j, j < nx → H j = H0 j
  dfr : H (e + 3) = some (.mp (.dfr D (some [])) 0 [])
  rcd : H (e + 4) = some (.mp (.loop l L) 0 (keepT 66 tm))
theorem JB.frame {H0 : Nat → Option AO} {nx e₀ : Nat} {r : Rec} {PL : List Int} {N : List Node} {l D : Nat} {L : Loop} {tm : Nat → AV} (he : nx + 6 ≤ e₀) (p : List Lk) (H : Nat → Option AO) (id : Nat) (o : AO) (h : JB H0 nx e₀ r PL N l D L tm p H) (hid : e₀ + 5 ≤ id) : JB H0 nx e₀ r PL N l D L tm p (updH H id o) := by
  have e : ∀ j, j < e₀ + 5 → updH H id o j = H j := fun j hj => by simp only [updH]; rw [if_neg (by omega)]
  have eR : ∀ j, j < e₀ + 5 → Pg.rowAt (updH H id o) j = Pg.rowAt H j := fun j hj => rowAt_eqH (e j hj)
  obtain ⟨⟨a1, a2, a3, a4, a5⟩, ⟨b1, b2, b3, lw, b4, b5⟩, h3, h4, h5, h6⟩ := h
  refine ⟨⟨(eR _ (by omega)).trans a1, (eR _ (by omega)).trans a2, (eR _ (by omega)).trans a3, ?_, (e _ (by omega)).trans a5⟩, ⟨(eR _ (by omega)).trans b1, (eR _ (by omega)).trans b2, (e _ (by omega)).trans b3, lw, b4, (eR _ (by omega)).trans b5⟩, (eR _ (by omega)).trans h3, fun j hj => (e _ (by omega)).trans (h4 j hj), (e _ (by omega)).trans h5, (e _ (by omega)).trans h6⟩
  obtain ⟨x, y, hxy⟩ := a4
  exact ⟨x, y, (eR _ (by omega)).trans hxy⟩
def dropS1 : Nat → Code → Code
  | 0, .seq _ b => b
  | n + 1, .seq _ b => dropS1 n b
  | _, c => c
theorem awk_gen {C : Cx} {N : Nat} {y z : Code} {Q : Exit → St → Prop} {s : St} (G : St → Prop) (hG : G s) (h : ∀ t, G t → AWk C N y z Q t) : AWk C N y z Q s := h s hG
noncomputable def tail87 : Code := dropS1 9 (Try.f87.body.getD .skip)

end Go.Proofs.Ks
