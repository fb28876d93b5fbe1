/-
  Contracts of functions, proved by going through their code. No conditions.
-/
import Derived.Test.YtdlflcambboojaaSaa
import Derived.Test.YtdlflcambboojaaSap
import Derived.Test.YtdlflcambboojaaSar
set_option linter.unusedVariables false
set_option linter.unusedSimpArgs false
set_option maxHeartbeats 8000000
set_option maxRecDepth 10000
namespace Go.Proofs.Ks
open Go Go.Pg Go.Proofs
attribute [push_cast] rowAt_mask
def Rows (H : Nat → Option AO) (n : Nat) (o : Mx) : Prop := ∀ x, x < n → Pg.rowAt H (1 + x) = some { k := 1, es := (o.getD x []).map eInt, ty := 3 }
theorem Rows.upd {H : Nat → Option AO} {n : Nat} {o : Mx} {id : Nat} {a : AO} (h : Rows H n o) (hid : id = 0 ∨ n < id) : Rows (updH H id a) n o := fun x hx => by
  have := h x hx
  unfold Pg.rowAt updH
  rw [if_neg (by omega)]; exact this
theorem Rows.set {H : Nat → Option AO} {n i k : Nat} {o : Mx} {v : Int} (h : Rows H n o) (hi : i < o.length) : Rows (updH H (1 + i) (.row { k := 1, es := ((o.getD i []).map eInt).set k [ai v], ty := 3 })) n (mset o i k v) := fun x hx => by
  by_cases e : x = i
  · subst e
    have e1 : (mset o x k v).getD x [] = (o.getD x []).set k v := by
      unfold mset; rw [List.getD_eq_getElem?_getD, List.getElem?_set]; simp [hi]
    rw [e1, List.map_set]
    unfold Pg.rowAt updH; simp
  · have e1 : (mset o i k v).getD x [] = o.getD x [] := by
      unfold mset; rw [List.getD_eq_getElem?_getD, List.getElem?_set, if_neg (fun h => e h.symm), ← List.getD_eq_getElem?_getD]
    rw [e1]
    have := h x hx
    unfold Pg.rowAt updH
    rw [if_neg (by omega)]; exact this
theorem Rows.succ {H : Nat → Option AO} {k : Nat} {o : Mx} (h : Rows H k o) (hk : Pg.rowAt H (1 + k) = some { k := 1, es := (o.getD k []).map eInt, ty := 3 }) : Rows H (k + 1) o := fun x hx => by
  by_cases e : x = k
  · subst e; exact hk
  · exact h x (by omega)
def outP (n k : Nat) : List (List AV) := (List.range k).map (fun i => [AV.ref (1 + i) 0 n]) ++ List.replicate (n - k) [AV.v (.slice none 0 0)]
theorem outP_len {n k : Nat} (h : k ≤ n) : (outP n k).length = n := by simp [outP]; omega
theorem outP_zero (n : Nat) : outP n 0 = List.replicate n [AV.v (.slice none 0 0)] := by simp [outP]
theorem outP_succ {n k : Nat} (h : k < n) : outP n (k + 1) = (outP n k).set k [AV.ref (1 + k) 0 n] := by
  unfold outP
  have e : List.replicate (n - k) [AV.v (.slice none 0 0)] = [AV.v (.slice none 0 0)] :: List.replicate (n - (k + 1)) [AV.v (.slice none 0 0)] := by
    rw [show n - k = (n - (k + 1)) + 1 by omega, List.replicate_succ]
  rw [e, List.set_append_right _ _ (by simp), List.range_succ, List.map_append]
  simp
theorem outP_next {n k : Nat} (h : k < n) : List.drop 1 ((outP n k).getD k []) = [] := by
  unfold outP
  have e : List.replicate (n - k) [AV.v (.slice none 0 0)] = [AV.v (.slice none 0 0)] :: List.replicate (n - (k + 1)) [AV.v (.slice none 0 0)] := by
    rw [show n - k = (n - (k + 1)) + 1 by omega, List.replicate_succ]
  rw [e, List.getD_eq_getElem?_getD, List.getElem?_append_right (by simp)]
  simp
theorem outP_get {n k i : Nat} (hi : i < k) : (outP n k).getD i [] = [AV.ref (1 + i) 0 n] ∧ (outP n k)[i]? = some [AV.ref (1 + i) 0 n] := by
  have e : (outP n k)[i]? = some [AV.ref (1 + i) 0 n] := by
    unfold outP
    rw [List.getElem?_append_left (by simpa using hi), List.getElem?_map, List.getElem?_range hi]; rfl
  exact ⟨by rw [List.getD_eq_getElem?_getD, e]; rfl, e⟩
def rowI (n k j : Nat) : List Int := (List.range j).map (fun c => if k ≠ c then far else 0) ++ List.replicate (n - j) 0
theorem rowI_len {n k j : Nat} (h : j ≤ n) : (rowI n k j).length = n := by simp [rowI]; omega
theorem rowI_zero (n k : Nat) : rowI n k 0 = List.replicate n 0 := by simp [rowI]
theorem rowI_all {n k : Nat} (h : k < n) : rowI n k n = (fwInit n).getD k [] := by
  unfold rowI fwInit
  rw [List.getD_eq_getElem?_getD, List.getElem?_map, List.getElem?_range h, Nat.sub_self]
  simp
theorem rowI_succ {n k j : Nat} (h : j < n) : rowI n k (j + 1) = (rowI n k j).set j (if k ≠ j then far else 0) := by
  unfold rowI
  have e : List.replicate (n - j) (0 : Int) = 0 :: List.replicate (n - (j + 1)) 0 := by
    rw [show n - j = (n - (j + 1)) + 1 by omega, List.replicate_succ]
  rw [e, set_mid (by simp), List.range_succ, List.map_append]
  simp
theorem rowI_same {n j : Nat} (h : j < n) : rowI n j (j + 1) = rowI n j j := by
  unfold rowI
  have e : List.replicate (n - j) (0 : Int) = 0 :: List.replicate (n - (j + 1)) 0 := by
    rw [show n - j = (n - (j + 1)) + 1 by omega, List.replicate_succ]
  rw [e, List.range_succ, List.map_append]
  simp
theorem pure_encM (o : Mx) : (o.map fun row => [lInt row]).all pureL = true := pure_map (fun _ => rfl) o
theorem take_encM (o : Mx) (n : Nat) (h : o.length = n) : (o.map fun row => [lInt row]).take n = o.map fun row => [lInt row] := by rw [List.take_of_length_le (by simp [h])]
theorem told_rows {H : Nat → Option AO} {n : Nat} {o : Mx} (hr : Rows H n o) (hd : Dim o n) : ∀ (i : Nat) (e e' : List AV), (outP n n)[i]? = some e → (o.map fun row => [lInt row])[i]? = some e' →
    e'.length = e.length ∧ ∀ (j : Nat) (a b : AV), e[j]? = some a → e'[j]? = some b → Pg.Told H a b ∧ ∀ x ∈ idsA a, x ∈ (List.range n).map (1 + ·) := fun i e e' h1 h2 => by
  have hi : i < n := by
    obtain ⟨h, _⟩ := List.getElem?_eq_some_iff.1 h2
    rw [List.length_map, hd.1] at h; exact h
  rw [(outP_get hi).2] at h1
  injection h1 with h1
  have e2 : (o.map fun row => [lInt row])[i]? = some [lInt (o.getD i [])] := get_map (fun row => [lInt row]) o i [] (by rw [hd.1]; exact hi)
  rw [e2] at h2
  injection h2 with h2
  subst h1; subst h2
  refine ⟨rfl, fun j a b ha hb => ?_⟩
  cases j with
  | succ j => simp at ha
  | zero =>
    simp only [List.getElem?_cons_zero, Option.some.injEq] at ha hb
    subst ha; subst hb
    refine ⟨.view ?_, fun x hx => ?_⟩
    · have hl := hd.2 i hi
      unfold viewA
      rw [hr i hi]
      dsimp only
      generalize o.getD i [] = row at hl ⊢
      rw [if_pos ⟨Nat.zero_le _, by rw [List.length_map, hl]; omega, pure_ints _⟩, List.drop_zero, List.take_of_length_le (by rw [List.length_map, hl]; exact Nat.le_refl _)]
    · simp only [idsA, List.mem_singleton] at hx
      subst hx
      exact List.mem_map.2 ⟨i, List.mem_range.2 hi, rfl⟩
theorem rowAt_frzM (H : Nat → Option AO) (ids : List Nat) (id : Nat) (a : AO) (r : Row) (h : a = .row r) : Pg.rowAt (updH (frz H ids) id a) id = some r := by
  subst h; unfold Pg.rowAt updH; simp
theorem closure_ok (n0 : Nat) (L : List Lk) (hn : n0 ≤ 100) (hll : L.length ≤ 10000) (hL : ∀ l ∈ L, l.a < n0 ∧ l.b < n0) (hm : ∀ l ∈ L, -1073741823 ≤ l.m ∧ l.m ≤ 1073741823) (hse : ∀ l ∈ L, l.a ≠ l.b) :
    OKv cx 104 [ai n0, lLink L] (match closureF n0 L with | some o => .tup [encM o, ab true] | none => .tup [.lst [], ab false]) := by
  obtain ⟨RES, hRES⟩ : ∃ z, closureF n0 L = z := ⟨_, rfl⟩
  rw [hRES]
  unfold closureF at hRES
  have k1 : ((n0 : Int) * 24 ≤ 281474976710656) = True := eq_true (by omega)
  have k2 : ((n0 : Int) * 8 ≤ 281474976710656) = True := eq_true (by omega)
  have k3 : ((n0 : Int) ≤ 281474976710656) = True := eq_true (by omega)
  refine OKat.of_body (rs := [4, 5]) Try.func104 rfl (by decide +kernel) rfl (by simp [Try.ntmps104]) ?_
  simp only [Try.ntmps104]
  repeat' first
    | apply jA | apply jB | apply jC | apply jD | apply jE | apply jF | apply jG | apply jH | apply jI | apply jJ
    | refine W.draw cx_mixed (by decide +kernel) ?_
    | ((first | (apply jK cx_ok; decide) | (apply jL cx_ok; decide; decide) | apply jM cx_ok | (apply jN; rfl; decide) | (apply jO; rfl; decide; decide) | apply jR); (simp (disch := omega) only [push_cast, simprocAttr, k1, k2, k3, zT, zS, zU, List.map_replicate] <;> rfl); all_goals try ((with_reducible intro hI); try first | (cases hI; done) | (simp only [INTS, zL] at hI; try first | (exfalso; omega) | (have hT : True := hI; clear hT hI))))
    | ((first | apply jh | apply ji); (iterate 2 (try (simp (disch := omega) only [push_cast, simprocAttr, k1, k2, k3, zT, zS, zU, List.map_replicate] <;> rfl))))
  refine AW.loop (fun n s => ∃ (k : Nat), n = n0 - k ∧ (k ≤ n0) ∧ (Rows s.H k (fwInit n0)) ∧ s.tm 0 = ai n0 ∧ s.tm 1 = lLink L ∧ s.tm 6 = .ref 0 0 n0 ∧ s.tm 7 = ai k ∧ Pg.rowAt s.H (0) = some ({ k := 1, es := outP n0 k, ty := 41 }) ∧ s.nx = 1 + k) (n0) ⟨0, rfl, (Nat.zero_le _), (fun x hx => absurd hx (Nat.not_lt_zero _)), ?_, ?_, ?_, ?_, ?_, ?_⟩ ?_
  iterate 6 (first | (simp (disch := omega) only [push_cast, simprocAttr, k1, k2, k3, zT, zS, zU, List.map_replicate, outP_zero] <;> first | rfl | omega) | omega)
  rintro n s ⟨k, hn, hp0, hp1, hS⟩
  by_cases hlt : k < n0
  · have hk : (k : Int) < (n0 : Int) := by omega
    have hol := outP_len hp0
    have hos := outP_succ hlt
    have hdz := outP_next hlt
    have z0 : ((0 : Nat) = 1 + k) = False := eq_false (by omega)
    have z1 : (1 + k = 0) = False := eq_false (by omega)
    repeat' first
      | apply jA | apply jB | apply jC | apply jD | apply jE | apply jF | apply jG | apply jH | apply jI | apply jJ
      | refine W.draw cx_mixed (by decide +kernel) ?_
      | ((first | (apply jK cx_ok; decide) | (apply jL cx_ok; decide; decide) | apply jM cx_ok | (apply jN; rfl; decide) | (apply jO; rfl; decide; decide) | apply jR); (simp (disch := omega) only [push_cast, simprocAttr, hS, k1, k2, k3, zT, zS, zU, List.map_replicate, hk, hlt, hol, z0, z1] <;> rfl); all_goals try ((with_reducible intro hI); try first | (cases hI; done) | (simp only [INTS, zL] at hI; try first | (exfalso; omega) | (have hT : True := hI; clear hT hI))))
      | ((first | apply jh | apply ji); (iterate 2 (try (simp (disch := omega) only [push_cast, simprocAttr, hS, k1, k2, k3, zT, zS, zU, List.map_replicate, hk, hlt, hol, z0, z1] <;> rfl))))
    refine AW.loop (fun n s => ∃ (j : Nat), n = n0 - j ∧ (j ≤ n0) ∧ (Rows s.H k (fwInit n0)) ∧ s.tm 0 = ai n0 ∧ s.tm 1 = lLink L ∧ s.tm 6 = .ref 0 0 n0 ∧ s.tm 7 = ai k ∧ s.tm 8 = ai j ∧ Pg.rowAt s.H (0) = some ({ k := 1, es := outP n0 (k + 1), ty := 41 }) ∧ Pg.rowAt s.H (1 + k) = some ({ k := 1, es := (rowI n0 k j).map eInt, ty := 3 }) ∧ s.nx = 1 + (k + 1)) (n0) ⟨0, rfl, (Nat.zero_le _), (by (try simp (disch := omega) only [push_cast, simprocAttr, hS, z0, z1]); (repeat (refine Rows.upd ?_ (by omega))); exact hp1), ?_, ?_, ?_, ?_, ?_, ?_, ?_, ?_⟩ ?_
    iterate 8 (first | (simp (disch := omega) only [push_cast, simprocAttr, hS, k1, k2, k3, zT, zS, zU, List.map_replicate, hk, hlt, hol, hos, hdz, z0, z1, rowI_zero] <;> first | rfl | omega) | omega)
    rintro n1 s1 ⟨j1, hn1, hp01, hp11, hS1⟩
    by_cases hlt1 : j1 < n0
    · have hk1 : (j1 : Int) < (n0 : Int) := by omega
      have hrl := rowI_len (k := k) hp01
      have hol1 := outP_len (n := n0) (k := k + 1) (by omega)
      have hog := outP_get (n := n0) (k := k + 1) (i := k) (by omega)
      have og1 := hog.1
      have og2 := hog.2
      have hrs := rowI_succ (k := k) hlt1
      by_cases he : k = j1
      · have heT : ((k : Int) = (j1 : Int)) = True := eq_true (by omega)
        have hrw : rowI n0 k (j1 + 1) = rowI n0 k j1 := by rw [← he]; exact rowI_same hlt
        repeat' first
          | apply jA | apply jB | apply jC | apply jD | apply jE | apply jF | apply jG | apply jH | apply jI | apply jJ
          | refine W.draw cx_mixed (by decide +kernel) ?_
          | ((first | (apply jK cx_ok; decide) | (apply jL cx_ok; decide; decide) | apply jM cx_ok | (apply jN; rfl; decide) | (apply jO; rfl; decide; decide) | apply jR); (simp (disch := omega) only [push_cast, simprocAttr, hS1, hk1, heT, z0, z1] <;> rfl); all_goals try ((with_reducible intro hI); try first | (cases hI; done) | (simp only [INTS, zL] at hI; try first | (exfalso; omega) | (have hT : True := hI; clear hT hI))))
          | ((first | apply jh | apply ji); (iterate 2 (try (simp (disch := omega) only [push_cast, simprocAttr, hS1, hk1, heT, z0, z1] <;> rfl))))
        all_goals (refine ⟨n0 - (j1 + 1), ?_, j1 + 1, rfl, (by omega), (by (try simp (disch := omega) only [push_cast, simprocAttr, hS1, z0, z1]); (repeat (refine Rows.upd ?_ (by omega))); exact hp11), ?_, ?_, ?_, ?_, ?_, ?_, ?_, ?_⟩; (omega); all_goals first | (simp (disch := omega) only [push_cast, simprocAttr, hS1, hk1, hrw, z0, z1] <;> first | rfl | omega) | omega)
      · have heF : ((k : Int) = (j1 : Int)) = False := eq_false (by omega)
        rw [if_pos he] at hrs
        repeat' first
          | apply jA | apply jB | apply jC | apply jD | apply jE | apply jF | apply jG | apply jH | apply jI | apply jJ
          | refine W.draw cx_mixed (by decide +kernel) ?_
          | ((first | (apply jK cx_ok; decide) | (apply jL cx_ok; decide; decide) | apply jM cx_ok | (apply jN; rfl; decide) | (apply jO; rfl; decide; decide) | apply jR); (simp (disch := omega) only [push_cast, simprocAttr, hS1, hk1, heF, hk, hlt, hlt1, hrl, hol1, og1, og2, z0, z1] <;> rfl); all_goals try ((with_reducible intro hI); try first | (cases hI; done) | (simp only [INTS, zL] at hI; try first | (exfalso; omega) | (have hT : True := hI; clear hT hI))))
          | ((first | apply jh | apply ji); (iterate 2 (try (simp (disch := omega) only [push_cast, simprocAttr, hS1, hk1, heF, hk, hlt, hlt1, hrl, hol1, og1, og2, z0, z1] <;> rfl))))
        all_goals (refine ⟨n0 - (j1 + 1), ?_, j1 + 1, rfl, (by omega), (by (try simp (disch := omega) only [push_cast, simprocAttr, hS1, z0, z1]); (repeat (refine Rows.upd ?_ (by omega))); exact hp11), ?_, ?_, ?_, ?_, ?_, ?_, ?_, ?_⟩; (omega); all_goals first | (simp (disch := omega) only [push_cast, simprocAttr, hS1, hk1, hrs, far, z0, z1] <;> first | rfl | omega) | omega)
    · have hk1 : ¬ (j1 : Int) < (n0 : Int) := by omega
      have hje : j1 = n0 := by omega
      subst hje
      have hrow : Pg.rowAt s1.H (1 + k) = some { k := 1, es := ((fwInit j1).getD k []).map eInt, ty := 3 } := by rw [← rowI_all hlt]; simp only [hS1]
      repeat' first
        | apply jA | apply jB | apply jC | apply jD | apply jE | apply jF | apply jG | apply jH | apply jI | apply jJ
        | refine W.draw cx_mixed (by decide +kernel) ?_
        | ((first | (apply jK cx_ok; decide) | (apply jL cx_ok; decide; decide) | apply jM cx_ok | (apply jN; rfl; decide) | (apply jO; rfl; decide; decide) | apply jR); (simp (disch := omega) only [push_cast, simprocAttr, hS1, hk1, z0, z1] <;> rfl); all_goals try ((with_reducible intro hI); try first | (cases hI; done) | (simp only [INTS, zL] at hI; try first | (exfalso; omega) | (have hT : True := hI; clear hT hI))))
        | ((first | apply jh | apply ji); (iterate 2 (try (simp (disch := omega) only [push_cast, simprocAttr, hS1, hk1, z0, z1] <;> rfl))))
      all_goals (refine ⟨j1 - (k + 1), ?_, k + 1, rfl, (by omega), (Rows.succ (by (try simp (disch := omega) only [push_cast, simprocAttr, hS1, z0, z1]); (repeat (refine Rows.upd ?_ (by omega))); exact hp11) (by (try simp (disch := omega) only [push_cast, simprocAttr, hS1]); first | exact hrow | rw [rowI_all hlt])), ?_, ?_, ?_, ?_, ?_, ?_⟩; (omega); all_goals first | (simp (disch := omega) only [push_cast, simprocAttr, hS1, hk1, z0, z1] <;> first | rfl | omega) | omega)
  · have hk : ¬ (k : Int) < (n0 : Int) := by omega
    have hke : n0 = k := by omega
    subst hke
    have og := fun i (h : i < n0) => outP_get (n := n0) (k := n0) h
    have hol := outP_len (n := n0) (k := n0) (Nat.le_refl _)
    repeat' first
      | apply jA | apply jB | apply jC | apply jD | apply jE | apply jF | apply jG | apply jH | apply jI | apply jJ
      | refine W.draw cx_mixed (by decide +kernel) ?_
      | ((first | (apply jK cx_ok; decide) | (apply jL cx_ok; decide; decide) | apply jM cx_ok | (apply jN; rfl; decide) | (apply jO; rfl; decide; decide) | apply jR); (simp (disch := omega) only [push_cast, simprocAttr, hS, hk] <;> rfl); all_goals try ((with_reducible intro hI); try first | (cases hI; done) | (simp only [INTS, zL] at hI; try first | (exfalso; omega) | (have hT : True := hI; clear hT hI))))
      | ((first | apply jh | apply ji); (iterate 2 (try (simp (disch := omega) only [push_cast, simprocAttr, hS, hk] <;> rfl))))
    refine AW.loop (fun n s => ∃ (k : Nat) (o : Mx) (rest : List Lk), n = rest.length ∧ (L.drop k = rest) ∧ (fwLinks rest o = fwLinks L (fwInit n0)) ∧ (FL L n0 o) ∧ (Rows s.H n0 o) ∧ 1 ≤ s.nx ∧ s.tm 0 = ai n0 ∧ s.tm 1 = lLink L ∧ s.tm 6 = .ref 0 0 n0 ∧ s.tm 9 = ai k ∧ Pg.rowAt s.H (0) = some ({ k := 1, es := outP n0 n0, ty := 41 })) (L.length) ⟨0, (fwInit n0), L, rfl, rfl, rfl, FL.init, (by (try simp (disch := omega) only [push_cast, simprocAttr, hS]); (repeat (refine Rows.upd ?_ (by omega))); exact hp1), ?_, ?_, ?_, ?_, ?_, ?_⟩ ?_
    iterate 6 (first | (simp (disch := omega) only [push_cast, simprocAttr, hS, hk] <;> first | rfl | omega) | omega)
    rintro n1 s1 ⟨k1, o1, rest1, hn1, hp01, hp11, hp21, hp31, hnl1, hS1⟩
    have hZ1 : (0 : Nat) ≠ s1.nx ∧ s1.nx ≠ (0 : Nat) := by omega
    have ho1 := hp21.dim
    rcases rest1 with _ | ⟨l, rest1⟩
    · have hk1 := drop_nil hp01
      rw [fwLinks] at hp11
      have hO : o1 = fwLinks L (fwInit n0) := hp11
      have hfs := FS.start (n := n0) hL hse
      rw [← hO] at hfs hRES
      repeat' first
        | apply jA | apply jB | apply jC | apply jD | apply jE | apply jF | apply jG | apply jH | apply jI | apply jJ
        | refine W.draw cx_mixed (by decide +kernel) ?_
        | ((first | (apply jK cx_ok; decide) | (apply jL cx_ok; decide; decide) | apply jM cx_ok | (apply jN; rfl; decide) | (apply jO; rfl; decide; decide) | apply jR); (simp (disch := omega) only [push_cast, simprocAttr, hS1, hZ1, hk1] <;> rfl); all_goals try ((with_reducible intro hI); try first | (cases hI; done) | (simp only [INTS, zL] at hI; try first | (exfalso; omega) | (have hT : True := hI; clear hT hI))))
        | ((first | apply jh | apply ji); (iterate 2 (try (simp (disch := omega) only [push_cast, simprocAttr, hS1, hZ1, hk1] <;> rfl))))
      refine AW.loop (fun n s => ∃ (m : Nat) (o : Mx), n = n0 - m ∧ (m ≤ n0) ∧ (fwLoop n0 (n0 - m) m o = RES) ∧ (FS L n0 o m) ∧ (Rows s.H n0 o) ∧ 1 ≤ s.nx ∧ s.tm 0 = ai n0 ∧ s.tm 1 = lLink L ∧ s.tm 6 = .ref 0 0 n0 ∧ s.tm 10 = ai m ∧ Pg.rowAt s.H (0) = some ({ k := 1, es := outP n0 n0, ty := 41 })) (n0) ⟨0, o1, rfl, (Nat.zero_le _), hRES, hfs, (by (try simp (disch := omega) only [push_cast, simprocAttr, hS1, hZ1]); (repeat (refine Rows.upd ?_ (by omega))); exact hp31), ?_, ?_, ?_, ?_, ?_, ?_⟩ ?_
      iterate 6 (first | (simp (disch := omega) only [push_cast, simprocAttr, hS1, hZ1, hk1] <;> first | rfl | omega) | omega)
      rintro n2 s2 ⟨m2, o2, hn2, hp02, hp12, hp22, hp32, hnl2, hS2⟩
      have hZ2 : (0 : Nat) ≠ s2.nx ∧ s2.nx ≠ (0 : Nat) := by omega
      have hdm : Dim o2 n0 := ⟨hp22.fw.len, hp22.fw.row⟩
      by_cases hlt2 : m2 < n0
      · have hk2 : (m2 : Int) < (n0 : Int) := by omega
        obtain ⟨c2, hc2⟩ : ∃ c, n0 - m2 = c + 1 := ⟨n0 - m2 - 1, by omega⟩
        rw [hc2, fwLoop] at hp12
        obtain ⟨R1, hR1⟩ : ∃ z, fwStep m2 n0 n0 0 o2 = z := ⟨_, rfl⟩
        rw [hR1] at hp12
        have hlow := fun x y (hx : x < n0) (hy : y < n0) => hp22.low (B := 1073741823) hL (by decide) (fun l hl => by have := hm l hl; omega) hx hy
        have hle := fun x y (hx : x < n0) (hy : y < n0) => hp22.fw.le x y hx hy
        have hmm := hp22.diag m2 hlt2
        repeat' first
          | apply jA | apply jB | apply jC | apply jD | apply jE | apply jF | apply jG | apply jH | apply jI | apply jJ
          | refine W.draw cx_mixed (by decide +kernel) ?_
          | ((first | (apply jK cx_ok; decide) | (apply jL cx_ok; decide; decide) | apply jM cx_ok | (apply jN; rfl; decide) | (apply jO; rfl; decide; decide) | apply jR); (simp (disch := omega) only [push_cast, simprocAttr, hS2, hZ2, hk2] <;> rfl); all_goals try ((with_reducible intro hI); try first | (cases hI; done) | (simp only [INTS, zL] at hI; try first | (exfalso; omega) | (have hT : True := hI; clear hT hI))))
          | ((first | apply jh | apply ji); (iterate 2 (try (simp (disch := omega) only [push_cast, simprocAttr, hS2, hZ2, hk2] <;> rfl))))
        refine AW.loop (fun n s => ∃ (i : Nat) (o : Mx), n = n0 - i ∧ (i ≤ n0) ∧ (fwStep m2 n0 (n0 - i) i o = R1) ∧ (Mid n0 m2 o2 o) ∧ (Rows s.H n0 o) ∧ 1 ≤ s.nx ∧ s.tm 0 = ai n0 ∧ s.tm 1 = lLink L ∧ s.tm 6 = .ref 0 0 n0 ∧ s.tm 10 = ai m2 ∧ s.tm 11 = ai i ∧ Pg.rowAt s.H (0) = some ({ k := 1, es := outP n0 n0, ty := 41 })) (n0) ⟨0, o2, rfl, (Nat.zero_le _), hR1, (Mid.refl hdm), (by (try simp (disch := omega) only [push_cast, simprocAttr, hS2, hZ2]); (repeat (refine Rows.upd ?_ (by omega))); exact hp32), ?_, ?_, ?_, ?_, ?_, ?_, ?_⟩ ?_
        iterate 7 (first | (simp (disch := omega) only [push_cast, simprocAttr, hS2, hZ2, hk2] <;> first | rfl | omega) | omega)
        rintro n3 s3 ⟨i3, o3, hn3, hp03, hp13, hp23, hp33, hnl3, hS3⟩
        have hZ3 : (0 : Nat) ≠ s3.nx ∧ s3.nx ≠ (0 : Nat) := by omega
        by_cases hlt3 : i3 < n0
        · have hk3 : (i3 : Int) < (n0 : Int) := by omega
          obtain ⟨c3, hc3⟩ : ∃ c, n0 - i3 = c + 1 := ⟨n0 - i3 - 1, by omega⟩
          rw [hc3, fwStep] at hp13
          obtain ⟨R2, hR2⟩ : ∃ z, fwRow m2 i3 n0 0 o3 = z := ⟨_, rfl⟩
          rw [hR2] at hp13
          repeat' first
            | apply jA | apply jB | apply jC | apply jD | apply jE | apply jF | apply jG | apply jH | apply jI | apply jJ
            | refine W.draw cx_mixed (by decide +kernel) ?_
            | ((first | (apply jK cx_ok; decide) | (apply jL cx_ok; decide; decide) | apply jM cx_ok | (apply jN; rfl; decide) | (apply jO; rfl; decide; decide) | apply jR); (simp (disch := omega) only [push_cast, simprocAttr, hS3, hZ3, hk3] <;> rfl); all_goals try ((with_reducible intro hI); try first | (cases hI; done) | (simp only [INTS, zL] at hI; try first | (exfalso; omega) | (have hT : True := hI; clear hT hI))))
            | ((first | apply jh | apply ji); (iterate 2 (try (simp (disch := omega) only [push_cast, simprocAttr, hS3, hZ3, hk3] <;> rfl))))
          refine AW.loop (fun n s => ∃ (j : Nat) (o : Mx), n = n0 - j ∧ (j ≤ n0) ∧ (fwRow m2 i3 (n0 - j) j o = R2) ∧ (Mid n0 m2 o2 o) ∧ (Rows s.H n0 o) ∧ 1 ≤ s.nx ∧ s.tm 0 = ai n0 ∧ s.tm 1 = lLink L ∧ s.tm 6 = .ref 0 0 n0 ∧ s.tm 10 = ai m2 ∧ s.tm 11 = ai i3 ∧ s.tm 12 = ai j ∧ Pg.rowAt s.H (0) = some ({ k := 1, es := outP n0 n0, ty := 41 })) (n0) ⟨0, o3, rfl, (Nat.zero_le _), hR2, hp23, (by (try simp (disch := omega) only [push_cast, simprocAttr, hS3, hZ3]); (repeat (refine Rows.upd ?_ (by omega))); exact hp33), ?_, ?_, ?_, ?_, ?_, ?_, ?_, ?_⟩ ?_
          iterate 8 (first | (simp (disch := omega) only [push_cast, simprocAttr, hS3, hZ3, hk3] <;> first | rfl | omega) | omega)
          rintro n4 s4 ⟨j4, o4, hn4, hp04, hp14, hp24, hp34, hnl4, hS4⟩
          have hZ4 : (0 : Nat) ≠ s4.nx ∧ s4.nx ≠ (0 : Nat) := by omega
          by_cases hlt4 : j4 < n0
          · have hk4 : (j4 : Int) < (n0 : Int) := by omega
            obtain ⟨c4, hc4⟩ : ∃ c, n0 - j4 = c + 1 := ⟨n0 - j4 - 1, by omega⟩
            rw [hc4, fwRow] at hp14
            obtain ⟨oi1, oi2⟩ := og i3 hlt3
            obtain ⟨om1, om2⟩ := og m2 hlt2
            have hRi := hp34 i3 hlt3
            have hRm := hp34 m2 hlt2
            have hdd := hp24.dim
            have hli := hdd.2 i3 hlt3
            have hlm := hdd.2 m2 hlt2
            have hil : i3 < o4.length := by rw [hdd.1]; exact hlt3
            have z0 : ((0 : Nat) = 1 + i3) = False := eq_false (by omega)
            have z1 : (1 + i3 = 0) = False := eq_false (by omega)
            have z2 : ((0 : Nat) = 1 + m2) = False := eq_false (by omega)
            have z3 : (1 + m2 = 0) = False := eq_false (by omega)
            have e1 : mget o4 i3 m2 = (o4.getD i3 []).getD m2 0 := rfl
            have e2 : mget o4 m2 j4 = (o4.getD m2 []).getD j4 0 := rfl
            have e3 : mget o4 i3 j4 = (o4.getD i3 []).getD j4 0 := rfl
            have q1 := hp24.col i3 hlt3
            have q2 := hp24.row j4 hlt4
            have w1 := hlow i3 m2 hlt3 hlt2
            have w2 := hlow m2 j4 hlt2 hlt4
            have w3 := hle i3 m2 hlt3 hlt2
            have w4 := hle m2 j4 hlt2 hlt4
            unfold far at w3 w4
            have hmid := hp24.cell hmm hlt2 hlt3 hlt4
            by_cases hc : mget o4 i3 m2 < far ∧ mget o4 m2 j4 < far
            · have hcell : fwCell m2 i3 j4 o4 = mset o4 i3 j4 (min (mget o4 i3 j4) (mget o4 i3 m2 + mget o4 m2 j4)) := if_pos hc
              obtain ⟨a1, a2⟩ := hc
              unfold far at a1 a2
              rw [e1] at q1 a1
              rw [e2] at q2 a2
              rw [e1, e2, e3] at hcell
              repeat' first
                | apply jA | apply jB | apply jC | apply jD | apply jE | apply jF | apply jG | apply jH | apply jI | apply jJ
                | refine AW.draw (id := 25) cx_mixed [29] [] [] 0 (by decide +kernel) ?_
                | refine W.draw cx_mixed (by decide +kernel) ?_
                | ((first | (apply jK cx_ok; decide) | (apply jL cx_ok; decide; decide) | apply jM cx_ok | (apply jN; rfl; decide) | (apply jO; rfl; decide; decide) | apply jR); (simp (disch := omega) only [push_cast, simprocAttr, hS4, hZ4, hk4, hk2, hk3, hlt2, hlt3, hlt4, oi1, oi2, om1, om2, hRi, hRm, hli, hlm, hol, a1, a2, z0, z1, z2, z3] <;> rfl); all_goals try ((with_reducible intro hI); try first | (cases hI; done) | (simp only [INTS, zL] at hI; try first | (exfalso; omega) | (have hT : True := hI; clear hT hI))))
                | ((first | (apply ja cx_ok; decide) | (apply jb cx_ok; decide; decide) | (apply jc cx_ok; decide; decide)); (simp (disch := omega) only [push_cast, simprocAttr, hS4, hZ4, hk4, hk2, hk3, hlt2, hlt3, hlt4, oi1, oi2, om1, om2, hRi, hRm, hli, hlm, hol, a1, a2, z0, z1, z2, z3] <;> rfl); try first | exact .inl rfl | exact .inr (by simp))
                | ((apply jY cx_ok; decide; decide); (simp (disch := omega) only [push_cast, simprocAttr, hS4, hZ4, hk4, hk2, hk3, hlt2, hlt3, hlt4, oi1, oi2, om1, om2, hRi, hRm, hli, hlm, hol, a1, a2, z0, z1, z2, z3] <;> rfl); first | exact .inl rfl | exact .inr (by simp))
                | ((first | apply jh | apply ji); (iterate 2 (try (simp (disch := omega) only [push_cast, simprocAttr, hS4, hZ4, hk4, hk2, hk3, hlt2, hlt3, hlt4, oi1, oi2, om1, om2, hRi, hRm, hli, hlm, hol, a1, a2, z0, z1, z2, z3] <;> rfl))))
              all_goals (refine ⟨n0 - (j4 + 1), ?_, j4 + 1, (fwCell m2 i3 j4 o4), rfl, (by omega), (by rw [show n0 - (j4 + 1) = c4 by omega]; exact hp14), hmid, (by rw [hcell]; (try simp (disch := omega) only [push_cast, simprocAttr, hS4, hZ4, hRi, hRm, oi1, oi2, om1, om2]); (repeat (refine Rows.upd ?_ (by omega))); exact (Rows.set hp34 hil)), ?_, ?_, ?_, ?_, ?_, ?_, ?_, ?_⟩; (omega); all_goals first | (simp (disch := omega) only [push_cast, simprocAttr, hS4, hZ4, hk4, z0, z1, oi1, oi2] <;> first | rfl | omega) | omega)
            · have hcell : fwCell m2 i3 j4 o4 = o4 := if_neg hc
              rw [hcell] at hp14 hmid
              unfold far at hc
              rw [e1, e2] at hc
              repeat' first
                | apply jA | apply jB | apply jC | apply jD | apply jE | apply jF | apply jG | apply jH | apply jI | apply jJ
                | refine AW.draw (id := 25) cx_mixed [29] [] [] 0 (by decide +kernel) ?_
                | refine W.draw cx_mixed (by decide +kernel) ?_
                | ((first | (apply jK cx_ok; decide) | (apply jL cx_ok; decide; decide) | apply jM cx_ok | (apply jN; rfl; decide) | (apply jO; rfl; decide; decide) | apply jR); (simp (disch := omega) only [push_cast, simprocAttr, hS4, hZ4, hk4, hk2, hk3, hlt2, hlt3, hlt4, oi1, oi2, om1, om2, hRi, hRm, hli, hlm, hol, z0, z1, z2, z3] <;> rfl); all_goals try ((with_reducible intro hI); try first | (cases hI; done) | (simp only [INTS, zL] at hI; try first | (exfalso; omega) | (have hT : True := hI; clear hT hI))))
                | ((first | (apply ja cx_ok; decide) | (apply jb cx_ok; decide; decide) | (apply jc cx_ok; decide; decide)); (simp (disch := omega) only [push_cast, simprocAttr, hS4, hZ4, hk4, hk2, hk3, hlt2, hlt3, hlt4, oi1, oi2, om1, om2, hRi, hRm, hli, hlm, hol, z0, z1, z2, z3] <;> rfl); try first | exact .inl rfl | exact .inr (by simp))
                | ((apply jY cx_ok; decide; decide); (simp (disch := omega) only [push_cast, simprocAttr, hS4, hZ4, hk4, hk2, hk3, hlt2, hlt3, hlt4, oi1, oi2, om1, om2, hRi, hRm, hli, hlm, hol, z0, z1, z2, z3] <;> rfl); first | exact .inl rfl | exact .inr (by simp))
                | ((first | apply jh | apply ji); (iterate 2 (try (simp (disch := omega) only [push_cast, simprocAttr, hS4, hZ4, hk4, hk2, hk3, hlt2, hlt3, hlt4, oi1, oi2, om1, om2, hRi, hRm, hli, hlm, hol, z0, z1, z2, z3] <;> rfl))))
              all_goals first
                | (exfalso; exact hc ⟨by assumption, by assumption⟩)
                | (refine ⟨n0 - (j4 + 1), ?_, j4 + 1, o4, rfl, (by omega), (by rw [show n0 - (j4 + 1) = c4 by omega]; exact hp14), hmid, (by (try simp (disch := omega) only [push_cast, simprocAttr, hS4, hZ4]); (repeat (refine Rows.upd ?_ (by omega))); exact hp34), ?_, ?_, ?_, ?_, ?_, ?_, ?_, ?_⟩; (omega); all_goals first | (simp (disch := omega) only [push_cast, simprocAttr, hS4, hZ4, hk4, z0, z1, oi1, oi2] <;> first | rfl | omega) | omega)
          · have hk4 : ¬ (j4 : Int) < (n0 : Int) := by omega
            rw [show n0 - j4 = 0 by omega, fwRow] at hp14
            subst hp14
            repeat' first
              | apply jA | apply jB | apply jC | apply jD | apply jE | apply jF | apply jG | apply jH | apply jI | apply jJ
              | refine W.draw cx_mixed (by decide +kernel) ?_
              | ((first | (apply jK cx_ok; decide) | (apply jL cx_ok; decide; decide) | apply jM cx_ok | (apply jN; rfl; decide) | (apply jO; rfl; decide; decide) | apply jR); (simp (disch := omega) only [push_cast, simprocAttr, hS4, hZ4, hk4] <;> rfl); all_goals try ((with_reducible intro hI); try first | (cases hI; done) | (simp only [INTS, zL] at hI; try first | (exfalso; omega) | (have hT : True := hI; clear hT hI))))
              | ((first | apply jh | apply ji); (iterate 2 (try (simp (disch := omega) only [push_cast, simprocAttr, hS4, hZ4, hk4] <;> rfl))))
            all_goals (refine ⟨n0 - (i3 + 1), ?_, i3 + 1, o4, rfl, (by omega), (by rw [show n0 - (i3 + 1) = c3 by omega]; exact hp13), hp24, (by (try simp (disch := omega) only [push_cast, simprocAttr, hS4, hZ4]); (repeat (refine Rows.upd ?_ (by omega))); exact hp34), ?_, ?_, ?_, ?_, ?_, ?_, ?_⟩; (omega); all_goals first | (simp (disch := omega) only [push_cast, simprocAttr, hS4, hZ4, hk4] <;> first | rfl | omega) | omega)
        · have hk3 : ¬ (i3 : Int) < (n0 : Int) := by omega
          rw [show n0 - i3 = 0 by omega, fwStep] at hp13
          subst hp13
          have hdm3 := hp23.dim
          obtain ⟨DG, hDG⟩ : ∃ z, negD o3 n0 0 = z := ⟨_, rfl⟩
          rw [hDG] at hp12
          repeat' first
            | apply jA | apply jB | apply jC | apply jD | apply jE | apply jF | apply jG | apply jH | apply jI | apply jJ
            | refine W.draw cx_mixed (by decide +kernel) ?_
            | ((first | (apply jK cx_ok; decide) | (apply jL cx_ok; decide; decide) | apply jM cx_ok | (apply jN; rfl; decide) | (apply jO; rfl; decide; decide) | apply jR); (simp (disch := omega) only [push_cast, simprocAttr, hS3, hZ3, hk3] <;> rfl); all_goals try ((with_reducible intro hI); try first | (cases hI; done) | (simp only [INTS, zL] at hI; try first | (exfalso; omega) | (have hT : True := hI; clear hT hI))))
            | ((first | apply jh | apply ji); (iterate 2 (try (simp (disch := omega) only [push_cast, simprocAttr, hS3, hZ3, hk3] <;> rfl))))
          refine AW.loop (fun n s => ∃ (i : Nat), n = n0 - i ∧ (i ≤ n0) ∧ (negD o3 (n0 - i) i = DG) ∧ (Rows s.H n0 o3) ∧ 1 ≤ s.nx ∧ s.tm 0 = ai n0 ∧ s.tm 1 = lLink L ∧ s.tm 6 = .ref 0 0 n0 ∧ s.tm 10 = ai m2 ∧ s.tm 13 = ai i ∧ Pg.rowAt s.H (0) = some ({ k := 1, es := outP n0 n0, ty := 41 })) (n0) ⟨0, rfl, (Nat.zero_le _), hDG, (by (try simp (disch := omega) only [push_cast, simprocAttr, hS3, hZ3]); (repeat (refine Rows.upd ?_ (by omega))); exact hp33), ?_, ?_, ?_, ?_, ?_, ?_, ?_⟩ ?_
          iterate 7 (first | (simp (disch := omega) only [push_cast, simprocAttr, hS3, hZ3, hk3] <;> first | rfl | omega) | omega)
          rintro n4 s4 ⟨i4, hn4, hp04, hp14, hp24, hnl4, hS4⟩
          have hZ4 : (0 : Nat) ≠ s4.nx ∧ s4.nx ≠ (0 : Nat) := by omega
          by_cases hlt4 : i4 < n0
          · have hk4 : (i4 : Int) < (n0 : Int) := by omega
            obtain ⟨c4, hc4⟩ : ∃ c, n0 - i4 = c + 1 := ⟨n0 - i4 - 1, by omega⟩
            rw [hc4, negD] at hp14
            obtain ⟨oi1, oi2⟩ := og i4 hlt4
            have hRi := hp24 i4 hlt4
            have hli := hdm3.2 i4 hlt4
            have e1 : mget o3 i4 i4 = (o3.getD i4 []).getD i4 0 := rfl
            rw [e1] at hp14
            by_cases hneg : (o3.getD i4 []).getD i4 0 < 0
            · have hD : DG = true := by rw [← hp14, decide_eq_true hneg, Bool.true_or]
              rw [hD, if_pos rfl] at hp12
              subst hp12
              repeat' first
                | apply jA | apply jB | apply jC | apply jD | apply jE | apply jF | apply jG | apply jH | apply jI | apply jJ
                | refine W.draw cx_mixed (by decide +kernel) ?_
                | ((first | (apply jK cx_ok; decide) | (apply jL cx_ok; decide; decide) | apply jM cx_ok | (apply jN; rfl; decide) | (apply jO; rfl; decide; decide) | apply jR); (simp (disch := omega) only [push_cast, simprocAttr, hS4, hZ4, hk4, hlt4, oi1, oi2, hRi, hli, hol, hneg] <;> rfl); all_goals try ((with_reducible intro hI); try first | (cases hI; done) | (simp only [INTS, zL] at hI; try first | (exfalso; omega) | (have hT : True := hI; clear hT hI))))
                | ((first | apply jh | apply ji); (iterate 2 (try (simp (disch := omega) only [push_cast, simprocAttr, hS4, hZ4, hk4, hlt4, oi1, oi2, hRi, hli, hol, hneg] <;> rfl))))
              all_goals (show _ = _; rfl)
            · have hnext : negD o3 (n0 - (i4 + 1)) (i4 + 1) = DG := by
                rw [show n0 - (i4 + 1) = c4 by omega, ← hp14, decide_eq_false hneg, Bool.false_or]
              repeat' first
                | apply jA | apply jB | apply jC | apply jD | apply jE | apply jF | apply jG | apply jH | apply jI | apply jJ
                | refine W.draw cx_mixed (by decide +kernel) ?_
                | ((first | (apply jK cx_ok; decide) | (apply jL cx_ok; decide; decide) | apply jM cx_ok | (apply jN; rfl; decide) | (apply jO; rfl; decide; decide) | apply jR); (simp (disch := omega) only [push_cast, simprocAttr, hS4, hZ4, hk4, hlt4, oi1, oi2, hRi, hli, hol, hneg] <;> rfl); all_goals try ((with_reducible intro hI); try first | (cases hI; done) | (simp only [INTS, zL] at hI; try first | (exfalso; omega) | (have hT : True := hI; clear hT hI))))
                | ((first | apply jh | apply ji); (iterate 2 (try (simp (disch := omega) only [push_cast, simprocAttr, hS4, hZ4, hk4, hlt4, oi1, oi2, hRi, hli, hol, hneg] <;> rfl))))
              all_goals (refine ⟨n0 - (i4 + 1), ?_, i4 + 1, rfl, (by omega), hnext, (by (try simp (disch := omega) only [push_cast, simprocAttr, hS4, hZ4]); (repeat (refine Rows.upd ?_ (by omega))); exact hp24), ?_, ?_, ?_, ?_, ?_, ?_, ?_⟩; (omega); all_goals first | (simp (disch := omega) only [push_cast, simprocAttr, hS4, hZ4, hk4] <;> first | rfl | omega) | omega)
          · have hk4 : ¬ (i4 : Int) < (n0 : Int) := by omega
            rw [show n0 - i4 = 0 by omega, negD] at hp14
            have hng : negD (fwStep m2 n0 n0 0 o2) n0 0 = false := by rw [hR1, hDG, ← hp14]
            have hfn := hp22.next (B := 1073741823) hL (by decide) (fun l hl => by have := hm l hl; omega) (by unfold far; omega) hlt2 hng
            rw [hR1] at hfn
            rw [← hp14, if_neg (by decide)] at hp12
            repeat' first
              | apply jA | apply jB | apply jC | apply jD | apply jE | apply jF | apply jG | apply jH | apply jI | apply jJ
              | refine W.draw cx_mixed (by decide +kernel) ?_
              | ((first | (apply jK cx_ok; decide) | (apply jL cx_ok; decide; decide) | apply jM cx_ok | (apply jN; rfl; decide) | (apply jO; rfl; decide; decide) | apply jR); (simp (disch := omega) only [push_cast, simprocAttr, hS4, hZ4, hk4] <;> rfl); all_goals try ((with_reducible intro hI); try first | (cases hI; done) | (simp only [INTS, zL] at hI; try first | (exfalso; omega) | (have hT : True := hI; clear hT hI))))
              | ((first | apply jh | apply ji); (iterate 2 (try (simp (disch := omega) only [push_cast, simprocAttr, hS4, hZ4, hk4] <;> rfl))))
            all_goals (refine ⟨n0 - (m2 + 1), ?_, m2 + 1, o3, rfl, (by omega), (by rw [show n0 - (m2 + 1) = c2 by omega]; exact hp12), hfn, (by (try simp (disch := omega) only [push_cast, simprocAttr, hS4, hZ4]); (repeat (refine Rows.upd ?_ (by omega))); exact hp24), ?_, ?_, ?_, ?_, ?_, ?_⟩; (omega); all_goals first | (simp (disch := omega) only [push_cast, simprocAttr, hS4, hZ4, hk4] <;> first | rfl | omega) | omega)
      · have hk2 : ¬ (m2 : Int) < (n0 : Int) := by omega
        rw [show n0 - m2 = 0 by omega, fwLoop] at hp12
        subst hp12
        have hr0 : Pg.rowAt s2.H 0 = some { k := 1, es := outP n0 n0, ty := 41 } := by simp only [hS2]
        refine AW.settle 0 ((List.range n0).map (1 + ·)) (es' := o2.map fun row => [lInt row]) hr0 (fun i hi => ?_) (fun hi => ?_) ?_ (told_rows hp32 hdm) ?_
        · obtain ⟨x, hx, rfl⟩ := List.mem_map.1 hi
          exact ⟨_, hp32 x (List.mem_range.1 hx)⟩
        · obtain ⟨x, hx, e⟩ := List.mem_map.1 hi
          omega
        · rw [List.length_map, hdm.1, hol]
        have hml := hdm.1
        repeat' first
          | apply jA | apply jB | apply jC | apply jD | apply jE | apply jF | apply jG | apply jH | apply jI | apply jJ
          | refine W.draw cx_mixed (by decide +kernel) ?_
          | ((first | (apply jK cx_ok; decide) | (apply jL cx_ok; decide; decide) | apply jM cx_ok | (apply jN; rfl; decide) | (apply jO; rfl; decide; decide) | apply jR); (simp (disch := omega) only [push_cast, simprocAttr, hS2, hZ2, hk2, pure_encM, hml, leT, take_encM, zS, zT, rowAt_frzM] <;> rfl); all_goals try ((with_reducible intro hI); try first | (cases hI; done) | (simp only [INTS, zL] at hI; try first | (exfalso; omega) | (have hT : True := hI; clear hT hI))))
          | ((first | apply jh | apply ji); (iterate 2 (try (simp (disch := omega) only [push_cast, simprocAttr, hS2, hZ2, hk2, pure_encM, hml, leT, take_encM, zS, zT, rowAt_frzM] <;> rfl))))
        all_goals (show _ = _; rfl)
    · obtain ⟨hk1, hg1, hd1, hl1, hm1, hx1⟩ := drop_cons hp01 eLink []
      obtain ⟨ha, hb⟩ := hL l hm1
      obtain ⟨m1, m2⟩ := hm l hm1
      have ha' : (l.a : Int) < (n0 : Int) := by omega
      have hb' : (l.b : Int) < (n0 : Int) := by omega
      obtain ⟨og1, og2⟩ := og l.a ha
      have hRa := hp31 l.a ha
      have hla := ho1.2 l.a ha
      have z0 : ((0 : Nat) = 1 + l.a) = False := eq_false (by omega)
      have z1 : (1 + l.a = 0) = False := eq_false (by omega)
      have hal : l.a < o1.length := by rw [ho1.1]; exact ha
      obtain ⟨hnx, hS'⟩ : True ∧ True := ⟨trivial, trivial⟩
      repeat' first
        | apply jA | apply jB | apply jC | apply jD | apply jE | apply jF | apply jG | apply jH | apply jI | apply jJ
        | refine AW.draw (id := 14) cx_mixed [35] [] [] 0 (by decide +kernel) ?_
        | refine W.draw cx_mixed (by decide +kernel) ?_
        | ((first | (apply jK cx_ok; decide) | (apply jL cx_ok; decide; decide) | apply jM cx_ok | (apply jN; rfl; decide) | (apply jO; rfl; decide; decide) | apply jR); (simp (disch := omega) only [push_cast, simprocAttr, hS1, hZ1, hk1, hg1, hx1, ha', hb', ha, hb, og1, og2, hRa, hla, hol, z0, z1] <;> rfl); all_goals try ((with_reducible intro hI); try first | (cases hI; done) | (simp only [INTS, zL] at hI; try first | (exfalso; omega) | (have hT : True := hI; clear hT hI))))
        | ((first | (apply ja cx_ok; decide) | (apply jb cx_ok; decide; decide) | (apply jc cx_ok; decide; decide)); (simp (disch := omega) only [push_cast, simprocAttr, hS1, hZ1, hk1, hg1, hx1, ha', hb', ha, hb, og1, og2, hRa, hla, hol, z0, z1] <;> rfl); try first | exact .inl rfl | exact .inr (by simp))
        | ((apply jY cx_ok; decide; decide); (simp (disch := omega) only [push_cast, simprocAttr, hS1, hZ1, hk1, hg1, hx1, ha', hb', ha, hb, og1, og2, hRa, hla, hol, z0, z1] <;> rfl); first | exact .inl rfl | exact .inr (by simp))
        | ((first | apply jh | apply ji); (iterate 2 (try (simp (disch := omega) only [push_cast, simprocAttr, hS1, hZ1, hk1, hg1, hx1, ha', hb', ha, hb, og1, og2, hRa, hla, hol, z0, z1] <;> rfl))))
      all_goals (refine ⟨rest1.length, ?_, k1 + 1, (fwLink o1 l), rest1, rfl, hd1, hp11, (hp21.link hL hse hm1), (by (try simp (disch := omega) only [push_cast, simprocAttr, hS1, hZ1, hRa, og1, og2]); (repeat (refine Rows.upd ?_ (by omega))); exact (Rows.set hp31 hal)), ?_, ?_, ?_, ?_, ?_, ?_⟩; ((simp only [zD] at *; omega)); all_goals first | (simp (disch := omega) only [push_cast, simprocAttr, hS1, hZ1, hk1, hg1, hx1, og1, og2, hRa, z0, z1] <;> first | rfl | omega) | omega)
end Go.Proofs.Ks

namespace Go.Proofs.Ks
structure LkOK (n : Nat) (l : Lk) : Prop where
  a : l.a < n
  b : l.b < n
  m : -1073741823 ≤ l.m ∧ l.m ≤ 1073741823
  ne : l.a ≠ l.b
theorem at_mark_ge {r : Rec} {more : List Int} {p : Int} (h : p ∈ marksR r more) : (3 + r.strikes.length : Int) ≤ atI 4 p 0 (nodesR r more) ∧ atI 4 p 0 (nodesR r more) < ((nodesR r more).length : Int) := by
  obtain ⟨h1, h2⟩ := at_mark h
  refine ⟨?_, h2⟩
  have e : atI 4 p 0 (nodesR r more) = atI 4 p (0 + (nd0 ++ ndS r.strikes.length).length) (ndM (marksR r more)) := by
    unfold nodesR
    refine atI_append 4 p _ _ 0 fun x hx => ?_
    rintro ⟨h3, _⟩
    rcases List.mem_append.1 hx with hx | hx
    · unfold nd0 at hx
      simp only [List.mem_cons, List.not_mem_nil, or_false] at hx
      rcases hx with rfl | rfl | rfl <;> simp at h3
    · unfold ndS at hx
      obtain ⟨i, _, rfl⟩ := List.mem_map.1 hx
      simp at h3
  rw [e] at h1 ⊢
  rcases atI_case 4 p (ndM (marksR r more)) (0 + (nd0 ++ ndS r.strikes.length).length) with ⟨h3, _⟩ | ⟨i, _, h3, _⟩
  · rw [h3] at h1; exact absurd h1 (by decide)
  · rw [h3, List.length_append, nd0_len, ndS_len]; omega
theorem bothL_ok {n k : Nat} {x : Span} (h0 : 0 < k) (hk : k < n) (hx : 0 ≤ x.lo ∧ x.lo ≤ x.hi ∧ x.hi ≤ 1073741823) : ∀ l ∈ bothL k x, LkOK n l := by
  intro l hl
  unfold bothL at hl
  simp only [List.mem_cons, List.not_mem_nil, or_false] at hl
  rcases hl with rfl | rfl
  · exact ⟨by dsimp only; omega, hk, by dsimp only; omega, by dsimp only; omega⟩
  · exact ⟨hk, by dsimp only; omega, by dsimp only; omega, by dsimp only; omega⟩
theorem needleL_ok {r : Rec} {more : List Int} {k : Nat} {x : Span} (hk : k < 3 + r.strikes.length) (h1 : x.lo ∈ marksR r more) (h2 : x.hi + 1 ∈ marksR r more) : ∀ l ∈ needleL (nodesR r more) k x, LkOK (nodesR r more).length l := by
  intro l hl
  obtain ⟨a1, a2⟩ := at_mark_ge h1
  obtain ⟨b1, b2⟩ := at_mark_ge h2
  unfold needleL at hl
  simp only [List.mem_cons, List.not_mem_nil, or_false] at hl
  rcases hl with rfl | rfl
  · exact ⟨by dsimp only; omega, by dsimp only; omega, by dsimp only; omega, by dsimp only; omega⟩
  · exact ⟨by dsimp only; omega, by dsimp only; omega, by dsimp only; omega, by dsimp only; omega⟩
theorem pairL_ok {s : Session} (hs : s.R) {n i : Nat} {x : Int} (hx : 0 ≤ x) : ∀ (l : List Int) (k : Nat), i < k → k + l.length ≤ n → (∀ y ∈ l, x ≤ y ∧ y ≤ 43200) → (∀ z ∈ pairL s i x k l, LkOK n z) ∧ (pairL s i x k l).length = 2 * l.length
  | [], k, _, _, _ => ⟨fun z hz => by simp [pairL] at hz, rfl⟩
  | y :: l, k, hik, hkn, hy => by
    obtain ⟨y1, y2⟩ := hy y (by simp)
    obtain ⟨b1, b2, b3, b4⟩ := leastR_bound s x y hs hx y1 y2
    simp only [List.length_cons] at hkn
    obtain ⟨h1, h2⟩ := pairL_ok hs (n := n) (i := i) hx l (k + 1) (by omega) (by omega) (fun z hz => hy z (by simp [hz]))
    refine ⟨fun z hz => ?_, by simp only [pairL, List.length_cons, h2]; omega⟩
    simp only [pairL, List.mem_cons] at hz
    rcases hz with rfl | rfl | hz
    · exact ⟨by dsimp only; omega, by dsimp only; omega, by dsimp only; omega, by dsimp only; omega⟩
    · exact ⟨by dsimp only; omega, by dsimp only; omega, by dsimp only; omega, by dsimp only; omega⟩
    · exact h1 z hz
theorem pairsL_ok {s : Session} (hs : s.R) {n : Nat} : ∀ (l : List Int) (i : Nat), i + l.length ≤ n → l.Pairwise (· < ·) → (∀ y ∈ l, 0 ≤ y ∧ y ≤ 43200) → (∀ z ∈ pairsL s i l, LkOK n z) ∧ (pairsL s i l).length ≤ 2 * l.length * l.length
  | [], i, _, _, _ => ⟨fun z hz => by simp [pairsL] at hz, by simp [pairsL]⟩
  | x :: l, i, hin, hp, hy => by
    obtain ⟨p1, p2⟩ := List.pairwise_cons.1 hp
    obtain ⟨x1, x2⟩ := hy x (by simp)
    simp only [List.length_cons] at hin
    obtain ⟨h1, h2⟩ := pairL_ok hs (n := n) (i := i) x1 l (i + 1) (by omega) (by omega) (fun y h => ⟨Int.le_of_lt (p1 y h), (hy y (by simp [h])).2⟩)
    obtain ⟨g1, g2⟩ := pairsL_ok hs (n := n) l (i + 1) (by omega) p2 (fun y h => hy y (by simp [h]))
    refine ⟨fun z hz => ?_, ?_⟩
    · simp only [pairsL, List.mem_append] at hz
      rcases hz with hz | hz
      · exact h1 z hz
      · exact g1 z hz
    · simp only [pairsL, List.length_append, List.length_cons, h2]
      have : 2 * (l.length + 1) * (l.length + 1) = 2 * l.length * l.length + 4 * l.length + 2 := by
        simp only [Nat.mul_add, Nat.add_mul]; omega
      omega
theorem sgL_ok {r : Rec} (hv : r.V) {n : Nat} (hn : 3 + r.strikes.length ≤ n) : ∀ l : List Sight, (∀ x ∈ l, x ∈ r.sights) → (∀ z ∈ sgL r l, LkOK n z) ∧ (sgL r l).length = 2 * l.length
  | [], _ => ⟨fun z hz => by simp [sgL] at hz, rfl⟩
  | x :: l, h => by
    obtain ⟨h1, h2⟩ := sgL_ok hv hn l (fun y hy => h y (by simp [hy]))
    have hx := hv.sights x (h x (by simp))
    obtain ⟨i1, i2⟩ := strikeI_lt (n := x.strike) (l := r.strikes) (k := r.strikes.length) (by rw [List.take_length]; exact hx.2.2.2)
    have hb := bothL_ok (n := n) (k := (3 + strikeI x.strike 0 r.strikes).toNat) (x := x.seen) (by omega) (by omega) ⟨hx.1, hx.2.1, hx.2.2.1⟩
    refine ⟨fun z hz => ?_, by simp only [sgL, List.length_append, bothL_len, h2, List.length_cons]; omega⟩
    simp only [sgL, List.mem_append] at hz
    rcases hz with hz | hz
    · exact hb z hz
    · exact h1 z hz
theorem rwL_ok {S n : Nat} (hn : 3 + S ≤ n) : ∀ (c i : Nat), i + c = S + 1 → (∀ z ∈ rwL S c i, LkOK n z) ∧ (rwL S c i).length = c
  | 0, i, _ => ⟨fun z hz => by simp [rwL] at hz, rfl⟩
  | c + 1, i, h => by
    obtain ⟨h1, h2⟩ := rwL_ok hn c (i + 1) (by omega)
    refine ⟨fun z hz => ?_, by simp [rwL, h2]⟩
    simp only [rwL, List.mem_cons] at hz
    rcases hz with rfl | hz
    · unfold rowK
      refine ⟨?_, ?_, by dsimp only; omega, ?_⟩ <;> dsimp only <;> (try split) <;> (try split) <;> omega
    · exact h1 z hz
theorem ndL_ok {r : Rec} {more : List Int} : ∀ (l : List Strike) (i : Nat), i + l.length ≤ r.strikes.length → (∀ x ∈ l, x ∈ r.strikes) → (∀ z ∈ ndL (nodesR r more) i l, LkOK (nodesR r more).length z) ∧ (ndL (nodesR r more) i l).length = 2 * l.length
  | [], _, _, _ => ⟨fun z hz => by simp [ndL] at hz, rfl⟩
  | x :: l, i, hi, h => by
    simp only [List.length_cons] at hi
    obtain ⟨h1, h2⟩ := ndL_ok (more := more) l (i + 1) (by omega) (fun y hy => h y (by simp [hy]))
    have hx := h x (by simp)
    have hb := needleL_ok (r := r) (more := more) (k := 3 + i) (x := x.pos) (by omega) (marksR_mem.2 (.inr (.inl ⟨x, hx, .inl rfl⟩))) (marksR_mem.2 (.inr (.inl ⟨x, hx, .inr rfl⟩)))
    refine ⟨fun z hz => ?_, by simp only [ndL, List.length_append, needleL_len, h2, List.length_cons]; omega⟩
    simp only [ndL, List.mem_append] at hz
    rcases hz with hz | hz
    · exact hb z hz
    · exact h1 z hz
theorem linksR_ok {r : Rec} (hv : r.V) {more : List Int} (hml : more.length ≤ 8) (hmb : ∀ a ∈ more, 0 ≤ a ∧ a ≤ 43200) : (∀ l ∈ linksR r more, LkOK (nodesR r more).length l) ∧ (linksR r more).length ≤ 10000 ∧ (nodesR r more).length ≤ 100 := by
  have hnl := nodesR_len r more
  have hmk := marksR_len r more
  have hns := hv.nstrikes
  have hng := hv.nsights
  have h3 : 3 + r.strikes.length ≤ (nodesR r more).length := by omega
  have hm := fun p => marksR_mem (r := r) (more := more) (a := p)
  have b1 := bothL_ok (n := (nodesR r more).length) (k := 1) (x := r.s.inn) (by omega) (by omega) hv.inn
  have b2 := bothL_ok (n := (nodesR r more).length) (k := 2) (x := r.s.out) (by omega) (by omega) hv.out
  obtain ⟨s1, s2⟩ := sgL_ok hv h3 r.sights (fun _ h => h)
  obtain ⟨w1, w2⟩ := rwL_ok h3 (r.strikes.length + 1) 0 (by omega)
  have d1 := needleL_ok (r := r) (more := more) (k := 1) (x := r.s.zero) (by omega) ((hm _).2 (.inl (.inl rfl))) ((hm _).2 (.inl (.inr (.inl rfl))))
  have d2 := needleL_ok (r := r) (more := more) (k := 2) (x := r.s.fin) (by omega) ((hm _).2 (.inl (.inr (.inr (.inl rfl))))) ((hm _).2 (.inl (.inr (.inr (.inr rfl)))))
  obtain ⟨n1, n2⟩ := ndL_ok (r := r) (more := more) r.strikes 0 (by omega) (fun _ h => h)
  obtain ⟨p1, p2⟩ := pairsL_ok hv.r (n := (nodesR r more).length) (marksR r more) (3 + r.strikes.length) (by omega) (marksR_sorted r more) (fun y h => marksR_bound hv hmb h)
  have hp : 2 * (marksR r more).length * (marksR r more).length ≤ 2 * 36 * 36 := Nat.mul_le_mul (by omega) (by omega)
  refine ⟨fun l hl => ?_, ?_, by omega⟩
  · unfold linksR at hl
    simp only [List.mem_append] at hl
    rcases hl with h | h | h | h | h | h | h | h
    · exact b1 l h
    · exact b2 l h
    · exact s1 l h
    · exact w1 l h
    · exact d1 l h
    · exact n1 l h
    · exact d2 l h
    · exact p1 l h
  · unfold linksR
    simp only [List.length_append, bothL_len, needleL_len, s2, w2, n2]
    omega
end Go.Proofs.Ks
